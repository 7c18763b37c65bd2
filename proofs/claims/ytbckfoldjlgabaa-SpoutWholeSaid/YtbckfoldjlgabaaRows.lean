/-
  No cell of these rows narrows 'for every input' (looked for: loops, veiled, ifaces, maps, wideKeys, modest, calm, conditions, laid).
  DERIVED. THE GIVEN ROWS OF THIS SEAT. 7 by the template 'for every input the law returns true; each argument reads behind the call as it read before'; 0 by the template 'total and deterministic' (their statements: YtbckfoldjlgabaaTotals.lean).
  GIVEN WITH THE SEED: the statements are not yours to turn. If you find one false, say at which input.
  Laid BY PROGRAM, IN A SANDBOX (cutbox-rows.mjs): the forced cells as the released guide's own fill.sh prints them over the translation 6441c55fcca7ed07… (all of the seat's roots in one cut). By AI agents, Wed Nov 11 2026. No macro, syntax, notation, axiom, sorry.
-/
import Derived.Test.YtbckfoldjlgabaaChecked
import GoSem.Claim
import GoSem.ClaimJoined
import GoSem.ClaimMapViews
import Derived.JoinedTies
import Derived.KernelRfl
namespace Go.Proofs.Ytbckfoldjlgabaa
/- THE CELL 'sum', in the pinned program and in every row, IS THE sha256 OF THE DUMP (.gsa) THAT YtbckfoldjlgabaaProg.lean LOADS. Nothing in Lean hashes anything: it is a label: what it is worth is what the hold of that sum in a sandbox is worth. -/
noncomputable def Try.pinned : Pinned := { name := "ytbckfoldjlgabaa", sum := "6441c55fcca7ed077384e81821cd6f202632fd0d5f9f698e02f89975463b8b3d", checked := Try.checked }
namespace Rows
def none {H : Type} : Left H := { results := [], args := [] }

/-- 'repriselaw07.SpoutForms': WHATEVER THE INPUT: true; the input reads as it did. -/
def spoutFormsSpec : ChangeSpec := { name := "spoutForms", fn := fun _ => fun
  | [d1, d2, d3] => { results := [.lit (.bool true)], args := [d1, d2, d3] }
  | _ => none }
def spoutFormsRow : OpenClaim := { program := "ytbckfoldjlgabaa", sum := "6441c55fcca7ed077384e81821cd6f202632fd0d5f9f698e02f89975463b8b3d", func := "reprise/repriselaw07.SpoutForms", spec := "spoutForms", inPlace := ["math.Float64frombits", "math.Float64bits", "math.archFloor", "math.archTrunc"], unfollowed := true, recurses := true, apart := false }
def SpoutFormsSaid : Prop := spoutFormsRow.holds Try.pinned (OpenSpec.ofChange spoutFormsSpec)

/-- ITS FALSE NEIGHBOUR: 'it returns false'. Refute it at one input. -/
def spoutFormsWrong : ChangeSpec := { name := "spoutForms", fn := fun _ => fun
  | [d1, d2, d3] => { results := [.lit (.bool false)], args := [d1, d2, d3] }
  | _ => none }
def SpoutFormsWrongFalsely : Prop := spoutFormsRow.holds Try.pinned (OpenSpec.ofChange spoutFormsWrong)

/-- 'repriselaw07.SpoutAgain': WHATEVER THE INPUT: true; the input reads as it did. -/
def spoutAgainSpec : ChangeSpec := { name := "spoutAgain", fn := fun _ => fun
  | [d1, d2, d3] => { results := [.lit (.bool true)], args := [d1, d2, d3] }
  | _ => none }
def spoutAgainRow : OpenClaim := { program := "ytbckfoldjlgabaa", sum := "6441c55fcca7ed077384e81821cd6f202632fd0d5f9f698e02f89975463b8b3d", func := "reprise/repriselaw07.SpoutAgain", spec := "spoutAgain", inPlace := ["math.Float64frombits", "math.Float64bits", "math.archFloor", "math.archTrunc"], unfollowed := true, recurses := true, apart := false }
def SpoutAgainSaid : Prop := spoutAgainRow.holds Try.pinned (OpenSpec.ofChange spoutAgainSpec)

/-- ITS FALSE NEIGHBOUR: 'it returns false'. Refute it at one input. -/
def spoutAgainWrong : ChangeSpec := { name := "spoutAgain", fn := fun _ => fun
  | [d1, d2, d3] => { results := [.lit (.bool false)], args := [d1, d2, d3] }
  | _ => none }
def SpoutAgainWrongFalsely : Prop := spoutAgainRow.holds Try.pinned (OpenSpec.ofChange spoutAgainWrong)

/-- 'repriselaw07.SpoutWhole': WHATEVER THE INPUT: true; the input reads as it did. -/
def spoutWholeSpec : ChangeSpec := { name := "spoutWhole", fn := fun _ => fun
  | [d1, d2, d3] => { results := [.lit (.bool true)], args := [d1, d2, d3] }
  | _ => none }
def spoutWholeRow : OpenClaim := { program := "ytbckfoldjlgabaa", sum := "6441c55fcca7ed077384e81821cd6f202632fd0d5f9f698e02f89975463b8b3d", func := "reprise/repriselaw07.SpoutWhole", spec := "spoutWhole", inPlace := ["math.Float64frombits", "math.Float64bits", "math.archFloor", "math.archTrunc"], unfollowed := true, recurses := true, apart := false }
def SpoutWholeSaid : Prop := spoutWholeRow.holds Try.pinned (OpenSpec.ofChange spoutWholeSpec)

/-- ITS FALSE NEIGHBOUR: 'it returns false'. Refute it at one input. -/
def spoutWholeWrong : ChangeSpec := { name := "spoutWhole", fn := fun _ => fun
  | [d1, d2, d3] => { results := [.lit (.bool false)], args := [d1, d2, d3] }
  | _ => none }
def SpoutWholeWrongFalsely : Prop := spoutWholeRow.holds Try.pinned (OpenSpec.ofChange spoutWholeWrong)

/-- 'repriselaw07.SpoutForward': WHATEVER THE INPUT: true; the input reads as it did. -/
def spoutForwardSpec : ChangeSpec := { name := "spoutForward", fn := fun _ => fun
  | [d1, d2, d3] => { results := [.lit (.bool true)], args := [d1, d2, d3] }
  | _ => none }
def spoutForwardRow : OpenClaim := { program := "ytbckfoldjlgabaa", sum := "6441c55fcca7ed077384e81821cd6f202632fd0d5f9f698e02f89975463b8b3d", func := "reprise/repriselaw07.SpoutForward", spec := "spoutForward", inPlace := ["math.Float64frombits", "math.Float64bits", "math.archFloor", "math.archTrunc"], unfollowed := true, recurses := true, apart := false }
def SpoutForwardSaid : Prop := spoutForwardRow.holds Try.pinned (OpenSpec.ofChange spoutForwardSpec)

/-- ITS FALSE NEIGHBOUR: 'it returns false'. Refute it at one input. -/
def spoutForwardWrong : ChangeSpec := { name := "spoutForward", fn := fun _ => fun
  | [d1, d2, d3] => { results := [.lit (.bool false)], args := [d1, d2, d3] }
  | _ => none }
def SpoutForwardWrongFalsely : Prop := spoutForwardRow.holds Try.pinned (OpenSpec.ofChange spoutForwardWrong)

/-- 'repriselaw07.SpoutTriples': WHATEVER THE INPUT: true; the input reads as it did. -/
def spoutTriplesSpec : ChangeSpec := { name := "spoutTriples", fn := fun _ => fun
  | [d1, d2, d3] => { results := [.lit (.bool true)], args := [d1, d2, d3] }
  | _ => none }
def spoutTriplesRow : OpenClaim := { program := "ytbckfoldjlgabaa", sum := "6441c55fcca7ed077384e81821cd6f202632fd0d5f9f698e02f89975463b8b3d", func := "reprise/repriselaw07.SpoutTriples", spec := "spoutTriples", inPlace := ["math.Float64frombits", "math.Float64bits", "math.archFloor", "math.archTrunc"], unfollowed := true, recurses := true, apart := false }
def SpoutTriplesSaid : Prop := spoutTriplesRow.holds Try.pinned (OpenSpec.ofChange spoutTriplesSpec)

/-- ITS FALSE NEIGHBOUR: 'it returns false'. Refute it at one input. -/
def spoutTriplesWrong : ChangeSpec := { name := "spoutTriples", fn := fun _ => fun
  | [d1, d2, d3] => { results := [.lit (.bool false)], args := [d1, d2, d3] }
  | _ => none }
def SpoutTriplesWrongFalsely : Prop := spoutTriplesRow.holds Try.pinned (OpenSpec.ofChange spoutTriplesWrong)

/-- 'repriselaw07.SpoutSteps': WHATEVER THE INPUT: true; the input reads as it did. -/
def spoutStepsSpec : ChangeSpec := { name := "spoutSteps", fn := fun _ => fun
  | [d1, d2] => { results := [.lit (.bool true)], args := [d1, d2] }
  | _ => none }
def spoutStepsRow : OpenClaim := { program := "ytbckfoldjlgabaa", sum := "6441c55fcca7ed077384e81821cd6f202632fd0d5f9f698e02f89975463b8b3d", func := "reprise/repriselaw07.SpoutSteps", spec := "spoutSteps", inPlace := ["math.Float64frombits", "math.Float64bits", "math.archFloor", "math.archTrunc"], unfollowed := true, recurses := true, apart := false }
def SpoutStepsSaid : Prop := spoutStepsRow.holds Try.pinned (OpenSpec.ofChange spoutStepsSpec)

/-- ITS FALSE NEIGHBOUR: 'it returns false'. Refute it at one input. -/
def spoutStepsWrong : ChangeSpec := { name := "spoutSteps", fn := fun _ => fun
  | [d1, d2] => { results := [.lit (.bool false)], args := [d1, d2] }
  | _ => none }
def SpoutStepsWrongFalsely : Prop := spoutStepsRow.holds Try.pinned (OpenSpec.ofChange spoutStepsWrong)

/-- 'repriselaw07.SpoutMemory': WHATEVER THE INPUT: true; the input reads as it did. -/
def spoutMemorySpec : ChangeSpec := { name := "spoutMemory", fn := fun _ => fun
  | [d1, d2, d3] => { results := [.lit (.bool true)], args := [d1, d2, d3] }
  | _ => none }
def spoutMemoryRow : OpenClaim := { program := "ytbckfoldjlgabaa", sum := "6441c55fcca7ed077384e81821cd6f202632fd0d5f9f698e02f89975463b8b3d", func := "reprise/repriselaw07.SpoutMemory", spec := "spoutMemory", inPlace := ["math.Float64frombits", "math.Float64bits", "math.archFloor", "math.archTrunc"], unfollowed := true, recurses := true, apart := false }
def SpoutMemorySaid : Prop := spoutMemoryRow.holds Try.pinned (OpenSpec.ofChange spoutMemorySpec)

/-- ITS FALSE NEIGHBOUR: 'it returns false'. Refute it at one input. -/
def spoutMemoryWrong : ChangeSpec := { name := "spoutMemory", fn := fun _ => fun
  | [d1, d2, d3] => { results := [.lit (.bool false)], args := [d1, d2, d3] }
  | _ => none }
def SpoutMemoryWrongFalsely : Prop := spoutMemoryRow.holds Try.pinned (OpenSpec.ofChange spoutMemoryWrong)

/- THE SECOND FORM. 'bulk': how many values and letters a reading holds, each counted each time it is reached (what is shared counts as often as it is met; a slice's spare places count too). A statement '..UptoSaid' is the law's where the arguments, and the package variables that the reading takes, are together of bulk at most 1048576: NARROWER than '..Said'. Prove '..Said' where nothing that the law and all that it calls make is longer than what came in: it says more and counts as full. Else prove '..UptoSaid'. A law counts once. -/
mutual
def uptoBulk {H : Type} : DataW H → Nat
  | .lit (.string bytes) => bytes.length + 1
  | .lit _ => 1
  | .nil => 1
  | .ptr d => uptoBulk d + 1
  | .slice elems spare => uptoBulkAll elems + uptoBulkAll spare + 1
  | .agg parts => uptoBulkAll parts + 1
  | .iface _ d => uptoBulk d + 1
  | .map entries => uptoBulkEntries entries + 1
  | .held _ => 1
def uptoBulkAll {H : Type} : List (DataW H) → Nat
  | [] => 0
  | d :: r => uptoBulk d + uptoBulkAll r
def uptoBulkEntries {H : Type} : List (Lit × DataW H) → Nat
  | [] => 0
  | x :: r => uptoBulkEntry x + uptoBulkEntries r
def uptoBulkEntry {H : Type} : Lit × DataW H → Nat
  | (.string bytes, d) => bytes.length + uptoBulk d + 1
  | (_, d) => uptoBulk d + 1
 end
def uptoSmall : (H : Type) → List (DataW H) → Bool := fun _ ds => decide (uptoBulkAll ds ≤ 1048576)
def OpenSpec.upto (s : _root_.Go.ChangeSpec) : _root_.Go.OpenSpec := { _root_.Go.OpenSpec.ofChange s with cond := some uptoSmall }

/-- 'repriselaw07.SpoutForms', WHERE WHAT IT READS IS OF BULK AT MOST 1048576: true; the input reads as it did. -/
def spoutFormsUptoRow : OpenClaim := { program := "ytbckfoldjlgabaa", sum := "6441c55fcca7ed077384e81821cd6f202632fd0d5f9f698e02f89975463b8b3d", func := "reprise/repriselaw07.SpoutForms", spec := "spoutForms", inPlace := ["math.Float64frombits", "math.Float64bits", "math.archFloor", "math.archTrunc"], unfollowed := true, recurses := true, apart := false, narrowed := true }
def SpoutFormsUptoSaid : Prop := spoutFormsUptoRow.holds Try.pinned (OpenSpec.upto spoutFormsSpec)

/-- 'repriselaw07.SpoutAgain', WHERE WHAT IT READS IS OF BULK AT MOST 1048576: true; the input reads as it did. -/
def spoutAgainUptoRow : OpenClaim := { program := "ytbckfoldjlgabaa", sum := "6441c55fcca7ed077384e81821cd6f202632fd0d5f9f698e02f89975463b8b3d", func := "reprise/repriselaw07.SpoutAgain", spec := "spoutAgain", inPlace := ["math.Float64frombits", "math.Float64bits", "math.archFloor", "math.archTrunc"], unfollowed := true, recurses := true, apart := false, narrowed := true }
def SpoutAgainUptoSaid : Prop := spoutAgainUptoRow.holds Try.pinned (OpenSpec.upto spoutAgainSpec)

/-- 'repriselaw07.SpoutWhole', WHERE WHAT IT READS IS OF BULK AT MOST 1048576: true; the input reads as it did. -/
def spoutWholeUptoRow : OpenClaim := { program := "ytbckfoldjlgabaa", sum := "6441c55fcca7ed077384e81821cd6f202632fd0d5f9f698e02f89975463b8b3d", func := "reprise/repriselaw07.SpoutWhole", spec := "spoutWhole", inPlace := ["math.Float64frombits", "math.Float64bits", "math.archFloor", "math.archTrunc"], unfollowed := true, recurses := true, apart := false, narrowed := true }
def SpoutWholeUptoSaid : Prop := spoutWholeUptoRow.holds Try.pinned (OpenSpec.upto spoutWholeSpec)

/-- 'repriselaw07.SpoutForward', WHERE WHAT IT READS IS OF BULK AT MOST 1048576: true; the input reads as it did. -/
def spoutForwardUptoRow : OpenClaim := { program := "ytbckfoldjlgabaa", sum := "6441c55fcca7ed077384e81821cd6f202632fd0d5f9f698e02f89975463b8b3d", func := "reprise/repriselaw07.SpoutForward", spec := "spoutForward", inPlace := ["math.Float64frombits", "math.Float64bits", "math.archFloor", "math.archTrunc"], unfollowed := true, recurses := true, apart := false, narrowed := true }
def SpoutForwardUptoSaid : Prop := spoutForwardUptoRow.holds Try.pinned (OpenSpec.upto spoutForwardSpec)

/-- 'repriselaw07.SpoutTriples', WHERE WHAT IT READS IS OF BULK AT MOST 1048576: true; the input reads as it did. -/
def spoutTriplesUptoRow : OpenClaim := { program := "ytbckfoldjlgabaa", sum := "6441c55fcca7ed077384e81821cd6f202632fd0d5f9f698e02f89975463b8b3d", func := "reprise/repriselaw07.SpoutTriples", spec := "spoutTriples", inPlace := ["math.Float64frombits", "math.Float64bits", "math.archFloor", "math.archTrunc"], unfollowed := true, recurses := true, apart := false, narrowed := true }
def SpoutTriplesUptoSaid : Prop := spoutTriplesUptoRow.holds Try.pinned (OpenSpec.upto spoutTriplesSpec)

/-- 'repriselaw07.SpoutSteps', WHERE WHAT IT READS IS OF BULK AT MOST 1048576: true; the input reads as it did. -/
def spoutStepsUptoRow : OpenClaim := { program := "ytbckfoldjlgabaa", sum := "6441c55fcca7ed077384e81821cd6f202632fd0d5f9f698e02f89975463b8b3d", func := "reprise/repriselaw07.SpoutSteps", spec := "spoutSteps", inPlace := ["math.Float64frombits", "math.Float64bits", "math.archFloor", "math.archTrunc"], unfollowed := true, recurses := true, apart := false, narrowed := true }
def SpoutStepsUptoSaid : Prop := spoutStepsUptoRow.holds Try.pinned (OpenSpec.upto spoutStepsSpec)

/-- 'repriselaw07.SpoutMemory', WHERE WHAT IT READS IS OF BULK AT MOST 1048576: true; the input reads as it did. -/
def spoutMemoryUptoRow : OpenClaim := { program := "ytbckfoldjlgabaa", sum := "6441c55fcca7ed077384e81821cd6f202632fd0d5f9f698e02f89975463b8b3d", func := "reprise/repriselaw07.SpoutMemory", spec := "spoutMemory", inPlace := ["math.Float64frombits", "math.Float64bits", "math.archFloor", "math.archTrunc"], unfollowed := true, recurses := true, apart := false, narrowed := true }
def SpoutMemoryUptoSaid : Prop := spoutMemoryUptoRow.holds Try.pinned (OpenSpec.upto spoutMemorySpec)

end Rows
end Go.Proofs.Ytbckfoldjlgabaa
