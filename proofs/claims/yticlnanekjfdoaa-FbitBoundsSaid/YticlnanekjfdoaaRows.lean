/-
  No cell of these rows narrows 'for every input' (looked for: loops, veiled, ifaces, maps, wideKeys, modest, calm, conditions, laid).
  DERIVED. THE GIVEN ROWS OF THIS SEAT. 8 by the template 'for every input the law returns true; each argument reads behind the call as it read before'; 0 by the template 'total and deterministic' (their statements: YticlnanekjfdoaaTotals.lean).
  GIVEN WITH THE SEED: the statements are not yours to turn. If you find one false, say at which input.
  Laid BY PROGRAM, IN A SANDBOX (cutbox-rows.mjs): the forced cells as the released guide's own fill.sh prints them over the translation eb750e2bb0d7924a… (all of the seat's roots in one cut). By AI agents, Wed Nov 11 2026. No macro, syntax, notation, axiom, sorry.
-/
import Derived.Test.YticlnanekjfdoaaChecked
import GoSem.Claim
import GoSem.ClaimJoined
import GoSem.ClaimMapViews
import Derived.JoinedTies
import Derived.KernelRfl
namespace Go.Proofs.Yticlnanekjfdoaa
/- THE CELL 'sum', in the pinned program and in every row, IS THE sha256 OF THE DUMP (.gsa) THAT YticlnanekjfdoaaProg.lean LOADS. Nothing in Lean hashes anything: it is a label: what it is worth is what the hold of that sum in a sandbox is worth. -/
noncomputable def Try.pinned : Pinned := { name := "yticlnanekjfdoaa", sum := "eb750e2bb0d7924a0af0719f15b65b7415f413f1e3a283061b06589899520d13", checked := Try.checked }
namespace Rows
def none {H : Type} : Left H := { results := [], args := [] }

/-- 'repriselaw01.FbitOne': WHATEVER THE INPUT: true; the input reads as it did. -/
def fbitOneSpec : ChangeSpec := { name := "fbitOne", fn := fun _ => fun
  | [d] => { results := [.lit (.bool true)], args := [d] }
  | _ => none }
def fbitOneRow : OpenClaim := { program := "yticlnanekjfdoaa", sum := "eb750e2bb0d7924a0af0719f15b65b7415f413f1e3a283061b06589899520d13", func := "reprise/repriselaw01.FbitOne", spec := "fbitOne", inPlace := ["math.Float64bits", "math.Float64frombits", "math.archFloor", "math.archTrunc"], apart := false }
def FbitOneSaid : Prop := fbitOneRow.holds Try.pinned (OpenSpec.ofChange fbitOneSpec)

/-- ITS FALSE NEIGHBOUR: 'it returns false'. Refute it at one input. -/
def fbitOneWrong : ChangeSpec := { name := "fbitOne", fn := fun _ => fun
  | [d] => { results := [.lit (.bool false)], args := [d] }
  | _ => none }
def FbitOneWrongFalsely : Prop := fbitOneRow.holds Try.pinned (OpenSpec.ofChange fbitOneWrong)

/-- 'repriselaw01.FbitTwo': WHATEVER THE INPUT: true; the input reads as it did. -/
def fbitTwoSpec : ChangeSpec := { name := "fbitTwo", fn := fun _ => fun
  | [d] => { results := [.lit (.bool true)], args := [d] }
  | _ => none }
def fbitTwoRow : OpenClaim := { program := "yticlnanekjfdoaa", sum := "eb750e2bb0d7924a0af0719f15b65b7415f413f1e3a283061b06589899520d13", func := "reprise/repriselaw01.FbitTwo", spec := "fbitTwo", inPlace := ["math.Float64bits", "math.Float64frombits", "math.archFloor", "math.archTrunc"], apart := false }
def FbitTwoSaid : Prop := fbitTwoRow.holds Try.pinned (OpenSpec.ofChange fbitTwoSpec)

/-- ITS FALSE NEIGHBOUR: 'it returns false'. Refute it at one input. -/
def fbitTwoWrong : ChangeSpec := { name := "fbitTwo", fn := fun _ => fun
  | [d] => { results := [.lit (.bool false)], args := [d] }
  | _ => none }
def FbitTwoWrongFalsely : Prop := fbitTwoRow.holds Try.pinned (OpenSpec.ofChange fbitTwoWrong)

/-- 'repriselaw01.FbitScales': WHATEVER THE INPUT: true; the input reads as it did. -/
def fbitScalesSpec : ChangeSpec := { name := "fbitScales", fn := fun _ => fun
  | [d1, d2] => { results := [.lit (.bool true)], args := [d1, d2] }
  | _ => none }
def fbitScalesRow : OpenClaim := { program := "yticlnanekjfdoaa", sum := "eb750e2bb0d7924a0af0719f15b65b7415f413f1e3a283061b06589899520d13", func := "reprise/repriselaw01.FbitScales", spec := "fbitScales", inPlace := ["math.Float64bits", "math.Float64frombits", "math.archFloor", "math.archTrunc"], apart := false }
def FbitScalesSaid : Prop := fbitScalesRow.holds Try.pinned (OpenSpec.ofChange fbitScalesSpec)

/-- ITS FALSE NEIGHBOUR: 'it returns false'. Refute it at one input. -/
def fbitScalesWrong : ChangeSpec := { name := "fbitScales", fn := fun _ => fun
  | [d1, d2] => { results := [.lit (.bool false)], args := [d1, d2] }
  | _ => none }
def FbitScalesWrongFalsely : Prop := fbitScalesRow.holds Try.pinned (OpenSpec.ofChange fbitScalesWrong)

/-- 'repriselaw01.FbitRow': WHATEVER THE INPUT: true; the input reads as it did. -/
def fbitRowSpec : ChangeSpec := { name := "fbitRow", fn := fun _ => fun
  | [d1, d2, d3] => { results := [.lit (.bool true)], args := [d1, d2, d3] }
  | _ => none }
def fbitRowRow : OpenClaim := { program := "yticlnanekjfdoaa", sum := "eb750e2bb0d7924a0af0719f15b65b7415f413f1e3a283061b06589899520d13", func := "reprise/repriselaw01.FbitRow", spec := "fbitRow", inPlace := ["math.Float64bits", "math.Float64frombits", "math.archFloor", "math.archTrunc"], apart := false }
def FbitRowSaid : Prop := fbitRowRow.holds Try.pinned (OpenSpec.ofChange fbitRowSpec)

/-- ITS FALSE NEIGHBOUR: 'it returns false'. Refute it at one input. -/
def fbitRowWrong : ChangeSpec := { name := "fbitRow", fn := fun _ => fun
  | [d1, d2, d3] => { results := [.lit (.bool false)], args := [d1, d2, d3] }
  | _ => none }
def FbitRowWrongFalsely : Prop := fbitRowRow.holds Try.pinned (OpenSpec.ofChange fbitRowWrong)

/-- 'repriselaw01.FbitLattice': WHATEVER THE INPUT: true; the input reads as it did. -/
def fbitLatticeSpec : ChangeSpec := { name := "fbitLattice", fn := fun _ => fun
  | [d1, d2, d3] => { results := [.lit (.bool true)], args := [d1, d2, d3] }
  | _ => none }
def fbitLatticeRow : OpenClaim := { program := "yticlnanekjfdoaa", sum := "eb750e2bb0d7924a0af0719f15b65b7415f413f1e3a283061b06589899520d13", func := "reprise/repriselaw01.FbitLattice", spec := "fbitLattice", inPlace := ["math.Float64bits", "math.Float64frombits", "math.archFloor", "math.archTrunc"], apart := false }
def FbitLatticeSaid : Prop := fbitLatticeRow.holds Try.pinned (OpenSpec.ofChange fbitLatticeSpec)

/-- ITS FALSE NEIGHBOUR: 'it returns false'. Refute it at one input. -/
def fbitLatticeWrong : ChangeSpec := { name := "fbitLattice", fn := fun _ => fun
  | [d1, d2, d3] => { results := [.lit (.bool false)], args := [d1, d2, d3] }
  | _ => none }
def FbitLatticeWrongFalsely : Prop := fbitLatticeRow.holds Try.pinned (OpenSpec.ofChange fbitLatticeWrong)

/-- 'repriselaw01.FbitBounds': WHATEVER THE INPUT: true; the input reads as it did. -/
def fbitBoundsSpec : ChangeSpec := { name := "fbitBounds", fn := fun _ => fun
  | [d] => { results := [.lit (.bool true)], args := [d] }
  | _ => none }
def fbitBoundsRow : OpenClaim := { program := "yticlnanekjfdoaa", sum := "eb750e2bb0d7924a0af0719f15b65b7415f413f1e3a283061b06589899520d13", func := "reprise/repriselaw01.FbitBounds", spec := "fbitBounds", inPlace := ["math.Float64bits", "math.Float64frombits", "math.archFloor", "math.archTrunc"], apart := false }
def FbitBoundsSaid : Prop := fbitBoundsRow.holds Try.pinned (OpenSpec.ofChange fbitBoundsSpec)

/-- ITS FALSE NEIGHBOUR: 'it returns false'. Refute it at one input. -/
def fbitBoundsWrong : ChangeSpec := { name := "fbitBounds", fn := fun _ => fun
  | [d] => { results := [.lit (.bool false)], args := [d] }
  | _ => none }
def FbitBoundsWrongFalsely : Prop := fbitBoundsRow.holds Try.pinned (OpenSpec.ofChange fbitBoundsWrong)

/-- 'repriselaw01.FbitPowers': WHATEVER THE INPUT: true; the input reads as it did. -/
def fbitPowersSpec : ChangeSpec := { name := "fbitPowers", fn := fun _ => fun
  | [d1, d2] => { results := [.lit (.bool true)], args := [d1, d2] }
  | _ => none }
def fbitPowersRow : OpenClaim := { program := "yticlnanekjfdoaa", sum := "eb750e2bb0d7924a0af0719f15b65b7415f413f1e3a283061b06589899520d13", func := "reprise/repriselaw01.FbitPowers", spec := "fbitPowers", inPlace := ["math.Float64bits", "math.Float64frombits", "math.archFloor", "math.archTrunc"], apart := false }
def FbitPowersSaid : Prop := fbitPowersRow.holds Try.pinned (OpenSpec.ofChange fbitPowersSpec)

/-- ITS FALSE NEIGHBOUR: 'it returns false'. Refute it at one input. -/
def fbitPowersWrong : ChangeSpec := { name := "fbitPowers", fn := fun _ => fun
  | [d1, d2] => { results := [.lit (.bool false)], args := [d1, d2] }
  | _ => none }
def FbitPowersWrongFalsely : Prop := fbitPowersRow.holds Try.pinned (OpenSpec.ofChange fbitPowersWrong)

/-- 'repriselaw01.FbitWhole': WHATEVER THE INPUT: true; the input reads as it did. -/
def fbitWholeSpec : ChangeSpec := { name := "fbitWhole", fn := fun _ => fun
  | [d1, d2] => { results := [.lit (.bool true)], args := [d1, d2] }
  | _ => none }
def fbitWholeRow : OpenClaim := { program := "yticlnanekjfdoaa", sum := "eb750e2bb0d7924a0af0719f15b65b7415f413f1e3a283061b06589899520d13", func := "reprise/repriselaw01.FbitWhole", spec := "fbitWhole", inPlace := ["math.Float64bits", "math.Float64frombits", "math.archFloor", "math.archTrunc"], apart := false }
def FbitWholeSaid : Prop := fbitWholeRow.holds Try.pinned (OpenSpec.ofChange fbitWholeSpec)

/-- ITS FALSE NEIGHBOUR: 'it returns false'. Refute it at one input. -/
def fbitWholeWrong : ChangeSpec := { name := "fbitWhole", fn := fun _ => fun
  | [d1, d2] => { results := [.lit (.bool false)], args := [d1, d2] }
  | _ => none }
def FbitWholeWrongFalsely : Prop := fbitWholeRow.holds Try.pinned (OpenSpec.ofChange fbitWholeWrong)

/- THE SECOND FORM. 'bulk': how many values and letters a reading holds, each counted each time it is reached (what is shared counts as often as it is met; a slice's spare places count too). A statement '..UptoSaid' is the law's where the arguments, and the package variables that the reading takes, are together of bulk at most 1048576: NARROWER than '..Said'. Prove '..Said' where nothing that the law and all that it calls make is longer than what came in: it says more and counts as full. Else prove '..UptoSaid'. A law counts once. -/
mutual
def uptoBulk {H : Type} : DataW H → Nat
  | .lit (.string bytes) => bytes.length + 1
  | .lit _ => 1
  | .nil => 1
  | .ptr d => uptoBulk d + 1
  | .slice elems spare => uptoBulkAll elems + uptoBulkAll spare + 1
  | .agg parts => uptoBulkAll parts + 1
  | .iface _ d => uptoBulk d + 1
  | .map entries => uptoBulkEntries entries + 1
  | .held _ => 1
def uptoBulkAll {H : Type} : List (DataW H) → Nat
  | [] => 0
  | d :: r => uptoBulk d + uptoBulkAll r
def uptoBulkEntries {H : Type} : List (Lit × DataW H) → Nat
  | [] => 0
  | x :: r => uptoBulkEntry x + uptoBulkEntries r
def uptoBulkEntry {H : Type} : Lit × DataW H → Nat
  | (.string bytes, d) => bytes.length + uptoBulk d + 1
  | (_, d) => uptoBulk d + 1
 end
def uptoSmall : (H : Type) → List (DataW H) → Bool := fun _ ds => decide (uptoBulkAll ds ≤ 1048576)
def OpenSpec.upto (s : _root_.Go.ChangeSpec) : _root_.Go.OpenSpec := { _root_.Go.OpenSpec.ofChange s with cond := some uptoSmall }

/-- 'repriselaw01.FbitOne', WHERE WHAT IT READS IS OF BULK AT MOST 1048576: true; the input reads as it did. -/
def fbitOneUptoRow : OpenClaim := { program := "yticlnanekjfdoaa", sum := "eb750e2bb0d7924a0af0719f15b65b7415f413f1e3a283061b06589899520d13", func := "reprise/repriselaw01.FbitOne", spec := "fbitOne", inPlace := ["math.Float64bits", "math.Float64frombits", "math.archFloor", "math.archTrunc"], apart := false, narrowed := true }
def FbitOneUptoSaid : Prop := fbitOneUptoRow.holds Try.pinned (OpenSpec.upto fbitOneSpec)

/-- 'repriselaw01.FbitTwo', WHERE WHAT IT READS IS OF BULK AT MOST 1048576: true; the input reads as it did. -/
def fbitTwoUptoRow : OpenClaim := { program := "yticlnanekjfdoaa", sum := "eb750e2bb0d7924a0af0719f15b65b7415f413f1e3a283061b06589899520d13", func := "reprise/repriselaw01.FbitTwo", spec := "fbitTwo", inPlace := ["math.Float64bits", "math.Float64frombits", "math.archFloor", "math.archTrunc"], apart := false, narrowed := true }
def FbitTwoUptoSaid : Prop := fbitTwoUptoRow.holds Try.pinned (OpenSpec.upto fbitTwoSpec)

/-- 'repriselaw01.FbitScales', WHERE WHAT IT READS IS OF BULK AT MOST 1048576: true; the input reads as it did. -/
def fbitScalesUptoRow : OpenClaim := { program := "yticlnanekjfdoaa", sum := "eb750e2bb0d7924a0af0719f15b65b7415f413f1e3a283061b06589899520d13", func := "reprise/repriselaw01.FbitScales", spec := "fbitScales", inPlace := ["math.Float64bits", "math.Float64frombits", "math.archFloor", "math.archTrunc"], apart := false, narrowed := true }
def FbitScalesUptoSaid : Prop := fbitScalesUptoRow.holds Try.pinned (OpenSpec.upto fbitScalesSpec)

/-- 'repriselaw01.FbitRow', WHERE WHAT IT READS IS OF BULK AT MOST 1048576: true; the input reads as it did. -/
def fbitRowUptoRow : OpenClaim := { program := "yticlnanekjfdoaa", sum := "eb750e2bb0d7924a0af0719f15b65b7415f413f1e3a283061b06589899520d13", func := "reprise/repriselaw01.FbitRow", spec := "fbitRow", inPlace := ["math.Float64bits", "math.Float64frombits", "math.archFloor", "math.archTrunc"], apart := false, narrowed := true }
def FbitRowUptoSaid : Prop := fbitRowUptoRow.holds Try.pinned (OpenSpec.upto fbitRowSpec)

/-- 'repriselaw01.FbitLattice', WHERE WHAT IT READS IS OF BULK AT MOST 1048576: true; the input reads as it did. -/
def fbitLatticeUptoRow : OpenClaim := { program := "yticlnanekjfdoaa", sum := "eb750e2bb0d7924a0af0719f15b65b7415f413f1e3a283061b06589899520d13", func := "reprise/repriselaw01.FbitLattice", spec := "fbitLattice", inPlace := ["math.Float64bits", "math.Float64frombits", "math.archFloor", "math.archTrunc"], apart := false, narrowed := true }
def FbitLatticeUptoSaid : Prop := fbitLatticeUptoRow.holds Try.pinned (OpenSpec.upto fbitLatticeSpec)

/-- 'repriselaw01.FbitBounds', WHERE WHAT IT READS IS OF BULK AT MOST 1048576: true; the input reads as it did. -/
def fbitBoundsUptoRow : OpenClaim := { program := "yticlnanekjfdoaa", sum := "eb750e2bb0d7924a0af0719f15b65b7415f413f1e3a283061b06589899520d13", func := "reprise/repriselaw01.FbitBounds", spec := "fbitBounds", inPlace := ["math.Float64bits", "math.Float64frombits", "math.archFloor", "math.archTrunc"], apart := false, narrowed := true }
def FbitBoundsUptoSaid : Prop := fbitBoundsUptoRow.holds Try.pinned (OpenSpec.upto fbitBoundsSpec)

/-- 'repriselaw01.FbitPowers', WHERE WHAT IT READS IS OF BULK AT MOST 1048576: true; the input reads as it did. -/
def fbitPowersUptoRow : OpenClaim := { program := "yticlnanekjfdoaa", sum := "eb750e2bb0d7924a0af0719f15b65b7415f413f1e3a283061b06589899520d13", func := "reprise/repriselaw01.FbitPowers", spec := "fbitPowers", inPlace := ["math.Float64bits", "math.Float64frombits", "math.archFloor", "math.archTrunc"], apart := false, narrowed := true }
def FbitPowersUptoSaid : Prop := fbitPowersUptoRow.holds Try.pinned (OpenSpec.upto fbitPowersSpec)

/-- 'repriselaw01.FbitWhole', WHERE WHAT IT READS IS OF BULK AT MOST 1048576: true; the input reads as it did. -/
def fbitWholeUptoRow : OpenClaim := { program := "yticlnanekjfdoaa", sum := "eb750e2bb0d7924a0af0719f15b65b7415f413f1e3a283061b06589899520d13", func := "reprise/repriselaw01.FbitWhole", spec := "fbitWhole", inPlace := ["math.Float64bits", "math.Float64frombits", "math.archFloor", "math.archTrunc"], apart := false, narrowed := true }
def FbitWholeUptoSaid : Prop := fbitWholeUptoRow.holds Try.pinned (OpenSpec.upto fbitWholeSpec)

end Rows
end Go.Proofs.Yticlnanekjfdoaa
