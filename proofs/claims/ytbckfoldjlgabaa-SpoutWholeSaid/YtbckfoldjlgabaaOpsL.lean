/- WALKS of repriselaw03: same, awake, OpsCheck. -/
import Derived.Test.YtbckfoldjlgabaaOpsS
namespace Go.Proofs.Ytbckfoldjlgabaa
open Go.RowKit
open Fl (nan key canon)
def sameR (a b : Rc) : Bool := decide (a.key = b.key) && decide (a.val = b.val)
theorem sameR_self (a : Rc) : sameR a a = true := by unfold sameR; simp
theorem run_lit (o : Stp) (r : Rc) (k : Int) (v : Nat) (z : Int) (ho : o.ok) (hr : r.ok) (h : (runOps (fun _ => o) 1 r).1.key = k ∧ (runOps (fun _ => o) 1 r).1.val = v ∧ (runOps (fun _ => o) 1 r).2 = z) (w : World) (b : Nat) (hb : Blk w b [.int .i64 o.kind, .int .i64 o.n, .float .f64 o.x] 73) :
    Calls Try.prog 67 #[.slice (some ⟨b, 0, none⟩) 1 1, .agg #[.int .u64 r.key, .float .f64 r.val]] w fun e w' => e = .returned (.tuple #[.agg #[.int .u64 k, .float .f64 v], .int .i64 z]) ∧ Below w.heap.size w w' := by
  have c := run_any (some ⟨b, 0, none⟩) 1 1 b 0 (fun _ => o) r w (by decide) (fun _ => rfl) (fun _ => stps_one ho hb) hr _ rfl
  rw [h.1, h.2.1, h.2.2] at c
  exact c
end Go.Proofs.Ytbckfoldjlgabaa
