/-
  No cell of these rows narrows 'for every input' (looked for: loops, veiled, ifaces, maps, wideKeys, modest, calm, conditions, laid).
  DERIVED. THE GIVEN ROWS OF THIS SEAT. 8 by the template 'for every input the law returns true; each argument reads behind the call as it read before'; 0 by the template 'total and deterministic' (their statements: YtgcbjpdmnlanoaaTotals.lean).
  GIVEN WITH THE SEED: the statements are not yours to turn. If you find one false, say at which input.
  Laid BY PROGRAM, IN A SANDBOX (cutbox-rows.mjs): the forced cells as the released guide's own fill.sh prints them over the translation 2d001fce0d2488c5… (all of the seat's roots in one cut). By AI agents, Wed Nov 11 2026. No macro, syntax, notation, axiom, sorry.
-/
import Derived.Test.YtgcbjpdmnlanoaaChecked
import GoSem.Claim
import GoSem.ClaimJoined
import GoSem.ClaimMapViews
import Derived.JoinedTies
import Derived.KernelRfl
namespace Go.Proofs.Ytgcbjpdmnlanoaa
/- THE CELL 'sum', in the pinned program and in every row, IS THE sha256 OF THE DUMP (.gsa) THAT YtgcbjpdmnlanoaaProg.lean LOADS. Nothing in Lean hashes anything: it is a label: what it is worth is what the hold of that sum in a sandbox is worth. -/
noncomputable def Try.pinned : Pinned := { name := "ytgcbjpdmnlanoaa", sum := "2d001fce0d2488c542437938c5f76a879734d8b04943f89760ddfc887477073b", checked := Try.checked }
namespace Rows
def none {H : Type} : Left H := { results := [], args := [] }

/-- 'repriselaw03.OpsCheck': WHATEVER THE INPUT: true; the input reads as it did. -/
def opsCheckSpec : ChangeSpec := { name := "opsCheck", fn := fun _ => fun
  | [d] => { results := [.lit (.bool true)], args := [d] }
  | _ => none }
def opsCheckRow : OpenClaim := { program := "ytgcbjpdmnlanoaa", sum := "2d001fce0d2488c542437938c5f76a879734d8b04943f89760ddfc887477073b", func := "reprise/repriselaw03.OpsCheck", spec := "opsCheck", inPlace := ["math.Float64frombits", "math.Float64bits", "math.archFloor", "math.archTrunc"], unfollowed := true, recurses := true, apart := false }
def OpsCheckSaid : Prop := opsCheckRow.holds Try.pinned (OpenSpec.ofChange opsCheckSpec)

/-- ITS FALSE NEIGHBOUR: 'it returns false'. Refute it at one input. -/
def opsCheckWrong : ChangeSpec := { name := "opsCheck", fn := fun _ => fun
  | [d] => { results := [.lit (.bool false)], args := [d] }
  | _ => none }
def OpsCheckWrongFalsely : Prop := opsCheckRow.holds Try.pinned (OpenSpec.ofChange opsCheckWrong)

/-- 'repriselaw03.OpsRun': WHATEVER THE INPUT: true; the input reads as it did. -/
def opsRunSpec : ChangeSpec := { name := "opsRun", fn := fun _ => fun
  | [d1, d2] => { results := [.lit (.bool true)], args := [d1, d2] }
  | _ => none }
def opsRunRow : OpenClaim := { program := "ytgcbjpdmnlanoaa", sum := "2d001fce0d2488c542437938c5f76a879734d8b04943f89760ddfc887477073b", func := "reprise/repriselaw03.OpsRun", spec := "opsRun", inPlace := ["math.Float64frombits", "math.Float64bits", "math.archFloor", "math.archTrunc"], unfollowed := true, recurses := true, apart := false }
def OpsRunSaid : Prop := opsRunRow.holds Try.pinned (OpenSpec.ofChange opsRunSpec)

/-- ITS FALSE NEIGHBOUR: 'it returns false'. Refute it at one input. -/
def opsRunWrong : ChangeSpec := { name := "opsRun", fn := fun _ => fun
  | [d1, d2] => { results := [.lit (.bool false)], args := [d1, d2] }
  | _ => none }
def OpsRunWrongFalsely : Prop := opsRunRow.holds Try.pinned (OpenSpec.ofChange opsRunWrong)

/-- 'repriselaw03.OpsOne': WHATEVER THE INPUT: true; the input reads as it did. -/
def opsOneSpec : ChangeSpec := { name := "opsOne", fn := fun _ => fun
  | [d1, d2] => { results := [.lit (.bool true)], args := [d1, d2] }
  | _ => none }
def opsOneRow : OpenClaim := { program := "ytgcbjpdmnlanoaa", sum := "2d001fce0d2488c542437938c5f76a879734d8b04943f89760ddfc887477073b", func := "reprise/repriselaw03.OpsOne", spec := "opsOne", inPlace := ["math.Float64frombits", "math.Float64bits", "math.archFloor", "math.archTrunc"], unfollowed := true, recurses := true, apart := false }
def OpsOneSaid : Prop := opsOneRow.holds Try.pinned (OpenSpec.ofChange opsOneSpec)

/-- ITS FALSE NEIGHBOUR: 'it returns false'. Refute it at one input. -/
def opsOneWrong : ChangeSpec := { name := "opsOne", fn := fun _ => fun
  | [d1, d2] => { results := [.lit (.bool false)], args := [d1, d2] }
  | _ => none }
def OpsOneWrongFalsely : Prop := opsOneRow.holds Try.pinned (OpenSpec.ofChange opsOneWrong)

/-- 'repriselaw03.OpsChain': WHATEVER THE INPUT: true; the input reads as it did. -/
def opsChainSpec : ChangeSpec := { name := "opsChain", fn := fun _ => fun
  | [d1, d2, d3] => { results := [.lit (.bool true)], args := [d1, d2, d3] }
  | _ => none }
def opsChainRow : OpenClaim := { program := "ytgcbjpdmnlanoaa", sum := "2d001fce0d2488c542437938c5f76a879734d8b04943f89760ddfc887477073b", func := "reprise/repriselaw03.OpsChain", spec := "opsChain", inPlace := ["math.Float64frombits", "math.Float64bits", "math.archFloor", "math.archTrunc"], unfollowed := true, recurses := true, apart := false }
def OpsChainSaid : Prop := opsChainRow.holds Try.pinned (OpenSpec.ofChange opsChainSpec)

/-- ITS FALSE NEIGHBOUR: 'it returns false'. Refute it at one input. -/
def opsChainWrong : ChangeSpec := { name := "opsChain", fn := fun _ => fun
  | [d1, d2, d3] => { results := [.lit (.bool false)], args := [d1, d2, d3] }
  | _ => none }
def OpsChainWrongFalsely : Prop := opsChainRow.holds Try.pinned (OpenSpec.ofChange opsChainWrong)

/-- 'repriselaw03.OpsEdges': WHATEVER THE INPUT: true; the input reads as it did. -/
def opsEdgesSpec : ChangeSpec := { name := "opsEdges", fn := fun _ => fun
  | [d1, d2] => { results := [.lit (.bool true)], args := [d1, d2] }
  | _ => none }
def opsEdgesRow : OpenClaim := { program := "ytgcbjpdmnlanoaa", sum := "2d001fce0d2488c542437938c5f76a879734d8b04943f89760ddfc887477073b", func := "reprise/repriselaw03.OpsEdges", spec := "opsEdges", inPlace := ["math.Float64frombits", "math.Float64bits", "math.archFloor", "math.archTrunc"], unfollowed := true, recurses := true, apart := false }
def OpsEdgesSaid : Prop := opsEdgesRow.holds Try.pinned (OpenSpec.ofChange opsEdgesSpec)

/-- ITS FALSE NEIGHBOUR: 'it returns false'. Refute it at one input. -/
def opsEdgesWrong : ChangeSpec := { name := "opsEdges", fn := fun _ => fun
  | [d1, d2] => { results := [.lit (.bool false)], args := [d1, d2] }
  | _ => none }
def OpsEdgesWrongFalsely : Prop := opsEdgesRow.holds Try.pinned (OpenSpec.ofChange opsEdgesWrong)

/-- 'repriselaw03.OpsTraps': WHATEVER THE INPUT: true; the input reads as it did. -/
def opsTrapsSpec : ChangeSpec := { name := "opsTraps", fn := fun _ => fun
  | [d1, d2] => { results := [.lit (.bool true)], args := [d1, d2] }
  | _ => none }
def opsTrapsRow : OpenClaim := { program := "ytgcbjpdmnlanoaa", sum := "2d001fce0d2488c542437938c5f76a879734d8b04943f89760ddfc887477073b", func := "reprise/repriselaw03.OpsTraps", spec := "opsTraps", inPlace := ["math.Float64frombits", "math.Float64bits", "math.archFloor", "math.archTrunc"], unfollowed := true, recurses := true, apart := false }
def OpsTrapsSaid : Prop := opsTrapsRow.holds Try.pinned (OpenSpec.ofChange opsTrapsSpec)

/-- ITS FALSE NEIGHBOUR: 'it returns false'. Refute it at one input. -/
def opsTrapsWrong : ChangeSpec := { name := "opsTraps", fn := fun _ => fun
  | [d1, d2] => { results := [.lit (.bool false)], args := [d1, d2] }
  | _ => none }
def OpsTrapsWrongFalsely : Prop := opsTrapsRow.holds Try.pinned (OpenSpec.ofChange opsTrapsWrong)

/-- 'repriselaw03.OpsKeys': WHATEVER THE INPUT: true; the input reads as it did. -/
def opsKeysSpec : ChangeSpec := { name := "opsKeys", fn := fun _ => fun
  | [d1, d2, d3] => { results := [.lit (.bool true)], args := [d1, d2, d3] }
  | _ => none }
def opsKeysRow : OpenClaim := { program := "ytgcbjpdmnlanoaa", sum := "2d001fce0d2488c542437938c5f76a879734d8b04943f89760ddfc887477073b", func := "reprise/repriselaw03.OpsKeys", spec := "opsKeys", inPlace := ["math.Float64frombits", "math.Float64bits", "math.archFloor", "math.archTrunc"], unfollowed := true, recurses := true, apart := false }
def OpsKeysSaid : Prop := opsKeysRow.holds Try.pinned (OpenSpec.ofChange opsKeysSpec)

/-- ITS FALSE NEIGHBOUR: 'it returns false'. Refute it at one input. -/
def opsKeysWrong : ChangeSpec := { name := "opsKeys", fn := fun _ => fun
  | [d1, d2, d3] => { results := [.lit (.bool false)], args := [d1, d2, d3] }
  | _ => none }
def OpsKeysWrongFalsely : Prop := opsKeysRow.holds Try.pinned (OpenSpec.ofChange opsKeysWrong)

/-- 'repriselaw03.OpsMemory': WHATEVER THE INPUT: true; the input reads as it did. -/
def opsMemorySpec : ChangeSpec := { name := "opsMemory", fn := fun _ => fun
  | [d1, d2] => { results := [.lit (.bool true)], args := [d1, d2] }
  | _ => none }
def opsMemoryRow : OpenClaim := { program := "ytgcbjpdmnlanoaa", sum := "2d001fce0d2488c542437938c5f76a879734d8b04943f89760ddfc887477073b", func := "reprise/repriselaw03.OpsMemory", spec := "opsMemory", inPlace := ["math.Float64frombits", "math.Float64bits", "math.archFloor", "math.archTrunc"], unfollowed := true, recurses := true, apart := false }
def OpsMemorySaid : Prop := opsMemoryRow.holds Try.pinned (OpenSpec.ofChange opsMemorySpec)

/-- ITS FALSE NEIGHBOUR: 'it returns false'. Refute it at one input. -/
def opsMemoryWrong : ChangeSpec := { name := "opsMemory", fn := fun _ => fun
  | [d1, d2] => { results := [.lit (.bool false)], args := [d1, d2] }
  | _ => none }
def OpsMemoryWrongFalsely : Prop := opsMemoryRow.holds Try.pinned (OpenSpec.ofChange opsMemoryWrong)

/- THE SECOND FORM. 'bulk': how many values and letters a reading holds, each counted each time it is reached (what is shared counts as often as it is met; a slice's spare places count too). A statement '..UptoSaid' is the law's where the arguments, and the package variables that the reading takes, are together of bulk at most 1048576: NARROWER than '..Said'. Prove '..Said' where nothing that the law and all that it calls make is longer than what came in: it says more and counts as full. Else prove '..UptoSaid'. A law counts once. -/
mutual
def uptoBulk {H : Type} : DataW H → Nat
  | .lit (.string bytes) => bytes.length + 1
  | .lit _ => 1
  | .nil => 1
  | .ptr d => uptoBulk d + 1
  | .slice elems spare => uptoBulkAll elems + uptoBulkAll spare + 1
  | .agg parts => uptoBulkAll parts + 1
  | .iface _ d => uptoBulk d + 1
  | .map entries => uptoBulkEntries entries + 1
  | .held _ => 1
def uptoBulkAll {H : Type} : List (DataW H) → Nat
  | [] => 0
  | d :: r => uptoBulk d + uptoBulkAll r
def uptoBulkEntries {H : Type} : List (Lit × DataW H) → Nat
  | [] => 0
  | x :: r => uptoBulkEntry x + uptoBulkEntries r
def uptoBulkEntry {H : Type} : Lit × DataW H → Nat
  | (.string bytes, d) => bytes.length + uptoBulk d + 1
  | (_, d) => uptoBulk d + 1
 end
def uptoSmall : (H : Type) → List (DataW H) → Bool := fun _ ds => decide (uptoBulkAll ds ≤ 1048576)
def OpenSpec.upto (s : _root_.Go.ChangeSpec) : _root_.Go.OpenSpec := { _root_.Go.OpenSpec.ofChange s with cond := some uptoSmall }

/-- 'repriselaw03.OpsCheck', WHERE WHAT IT READS IS OF BULK AT MOST 1048576: true; the input reads as it did. -/
def opsCheckUptoRow : OpenClaim := { program := "ytgcbjpdmnlanoaa", sum := "2d001fce0d2488c542437938c5f76a879734d8b04943f89760ddfc887477073b", func := "reprise/repriselaw03.OpsCheck", spec := "opsCheck", inPlace := ["math.Float64frombits", "math.Float64bits", "math.archFloor", "math.archTrunc"], unfollowed := true, recurses := true, apart := false, narrowed := true }
def OpsCheckUptoSaid : Prop := opsCheckUptoRow.holds Try.pinned (OpenSpec.upto opsCheckSpec)

/-- 'repriselaw03.OpsRun', WHERE WHAT IT READS IS OF BULK AT MOST 1048576: true; the input reads as it did. -/
def opsRunUptoRow : OpenClaim := { program := "ytgcbjpdmnlanoaa", sum := "2d001fce0d2488c542437938c5f76a879734d8b04943f89760ddfc887477073b", func := "reprise/repriselaw03.OpsRun", spec := "opsRun", inPlace := ["math.Float64frombits", "math.Float64bits", "math.archFloor", "math.archTrunc"], unfollowed := true, recurses := true, apart := false, narrowed := true }
def OpsRunUptoSaid : Prop := opsRunUptoRow.holds Try.pinned (OpenSpec.upto opsRunSpec)

/-- 'repriselaw03.OpsOne', WHERE WHAT IT READS IS OF BULK AT MOST 1048576: true; the input reads as it did. -/
def opsOneUptoRow : OpenClaim := { program := "ytgcbjpdmnlanoaa", sum := "2d001fce0d2488c542437938c5f76a879734d8b04943f89760ddfc887477073b", func := "reprise/repriselaw03.OpsOne", spec := "opsOne", inPlace := ["math.Float64frombits", "math.Float64bits", "math.archFloor", "math.archTrunc"], unfollowed := true, recurses := true, apart := false, narrowed := true }
def OpsOneUptoSaid : Prop := opsOneUptoRow.holds Try.pinned (OpenSpec.upto opsOneSpec)

/-- 'repriselaw03.OpsChain', WHERE WHAT IT READS IS OF BULK AT MOST 1048576: true; the input reads as it did. -/
def opsChainUptoRow : OpenClaim := { program := "ytgcbjpdmnlanoaa", sum := "2d001fce0d2488c542437938c5f76a879734d8b04943f89760ddfc887477073b", func := "reprise/repriselaw03.OpsChain", spec := "opsChain", inPlace := ["math.Float64frombits", "math.Float64bits", "math.archFloor", "math.archTrunc"], unfollowed := true, recurses := true, apart := false, narrowed := true }
def OpsChainUptoSaid : Prop := opsChainUptoRow.holds Try.pinned (OpenSpec.upto opsChainSpec)

/-- 'repriselaw03.OpsEdges', WHERE WHAT IT READS IS OF BULK AT MOST 1048576: true; the input reads as it did. -/
def opsEdgesUptoRow : OpenClaim := { program := "ytgcbjpdmnlanoaa", sum := "2d001fce0d2488c542437938c5f76a879734d8b04943f89760ddfc887477073b", func := "reprise/repriselaw03.OpsEdges", spec := "opsEdges", inPlace := ["math.Float64frombits", "math.Float64bits", "math.archFloor", "math.archTrunc"], unfollowed := true, recurses := true, apart := false, narrowed := true }
def OpsEdgesUptoSaid : Prop := opsEdgesUptoRow.holds Try.pinned (OpenSpec.upto opsEdgesSpec)

/-- 'repriselaw03.OpsTraps', WHERE WHAT IT READS IS OF BULK AT MOST 1048576: true; the input reads as it did. -/
def opsTrapsUptoRow : OpenClaim := { program := "ytgcbjpdmnlanoaa", sum := "2d001fce0d2488c542437938c5f76a879734d8b04943f89760ddfc887477073b", func := "reprise/repriselaw03.OpsTraps", spec := "opsTraps", inPlace := ["math.Float64frombits", "math.Float64bits", "math.archFloor", "math.archTrunc"], unfollowed := true, recurses := true, apart := false, narrowed := true }
def OpsTrapsUptoSaid : Prop := opsTrapsUptoRow.holds Try.pinned (OpenSpec.upto opsTrapsSpec)

/-- 'repriselaw03.OpsKeys', WHERE WHAT IT READS IS OF BULK AT MOST 1048576: true; the input reads as it did. -/
def opsKeysUptoRow : OpenClaim := { program := "ytgcbjpdmnlanoaa", sum := "2d001fce0d2488c542437938c5f76a879734d8b04943f89760ddfc887477073b", func := "reprise/repriselaw03.OpsKeys", spec := "opsKeys", inPlace := ["math.Float64frombits", "math.Float64bits", "math.archFloor", "math.archTrunc"], unfollowed := true, recurses := true, apart := false, narrowed := true }
def OpsKeysUptoSaid : Prop := opsKeysUptoRow.holds Try.pinned (OpenSpec.upto opsKeysSpec)

/-- 'repriselaw03.OpsMemory', WHERE WHAT IT READS IS OF BULK AT MOST 1048576: true; the input reads as it did. -/
def opsMemoryUptoRow : OpenClaim := { program := "ytgcbjpdmnlanoaa", sum := "2d001fce0d2488c542437938c5f76a879734d8b04943f89760ddfc887477073b", func := "reprise/repriselaw03.OpsMemory", spec := "opsMemory", inPlace := ["math.Float64frombits", "math.Float64bits", "math.archFloor", "math.archTrunc"], unfollowed := true, recurses := true, apart := false, narrowed := true }
def OpsMemoryUptoSaid : Prop := opsMemoryUptoRow.holds Try.pinned (OpenSpec.upto opsMemorySpec)

end Rows
end Go.Proofs.Ytgcbjpdmnlanoaa
