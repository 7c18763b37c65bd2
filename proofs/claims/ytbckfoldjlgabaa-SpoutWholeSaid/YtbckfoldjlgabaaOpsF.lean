/- WALKS of ops: Key, One. -/
import Derived.Test.YtbckfoldjlgabaaOpsE
namespace Go.Proofs.Ytbckfoldjlgabaa
open Go.RowKit
open Fl (nan key canon)
set_option maxRecDepth 100000 in
set_option maxHeartbeats 1000000 in
theorem key_any (a : Option Addr) (len cap rb ro : Nat) (f : Nat → Stp) (r : Rc) (w : World) (hln : len ≤ 9223372036854775807) (ha : 0 < len → a = some ⟨rb, ro, none⟩) (hr : 0 < len → Stps w rb ro len f) (hok : r.ok) :
    Calls Try.prog 53 #[.slice a len cap, .agg #[.int .u64 r.key, .float .f64 r.val]] w fun e w' => e = .returned (.tuple #[.int .u64 (runOps f len r).1.key, .bool ((runOps f len r).2 == 1)]) ∧ Below w.heap.size w w' := by
  have HR := Lib.hid hr
  have C1 : Hid (∀ w2, Below w.heap.size w w2 → Calls Try.prog 67 #[.slice a len cap, .agg #[.int .u64 r.key, .float .f64 r.val]] w2 fun e w' => e = .returned (.tuple #[.agg #[.int .u64 (runOps f len r).1.key, .float .f64 (runOps f len r).1.val], .int .i64 (runOps f len r).2]) ∧ Below w2.heap.size w2 w') :=
    Lib.hid (fun w2 hb => run_any a len cap rb ro f r w2 hln ha (fun h => (HR.out h).keep hb (HR.out h).lt hb.size) hok _ rfl)
  generalize runOps f len r = T at *
  obtain ⟨⟨tk, tv⟩, tf⟩ := T
  clear hr hln ha hok HR
  dsimp only at *
  go_enter Try.func53, Try.ntmps53
  go_wp2_with fail
  refine (C1.out _ (by repeat' (first | with_reducible exact Below.refl _ _ | with_reducible assumption | with_reducible refine bel_drew ?_ | with_reducible refine bel_alloc ?_ _ | with_reducible refine bel_set ?_ ?_ _ | with_reducible refine bel_call ?_ (by assumption) | (dsimp only; omega) | (simp; done) | (simp; omega)))).mono ?_
  rintro e w1 ⟨rfl, hb⟩
  have p1 : Below w.heap.size w w1 := (by repeat' (first | with_reducible exact Below.refl _ _ | with_reducible assumption | with_reducible refine bel_drew ?_ | with_reducible refine bel_alloc ?_ _ | with_reducible refine bel_set ?_ ?_ _ | with_reducible refine bel_call ?_ (by assumption) | (dsimp only; omega) | (simp; done) | (simp; omega)))
  clear hb
  go_wp2_with fail
  go_ret2
  exact ⟨rfl, (by repeat' (first | with_reducible exact Below.refl _ _ | with_reducible assumption | with_reducible refine bel_drew ?_ | with_reducible refine bel_alloc ?_ _ | with_reducible refine bel_set ?_ ?_ _ | with_reducible refine bel_call ?_ (by assumption) | (dsimp only; omega) | (simp; done) | (simp; omega)))⟩
theorem stps_one {w : World} {b : Nat} {t : TypeId} {o : Stp} (ho : o.ok) (h : Blk w b [.int .i64 o.kind, .int .i64 o.n, .float .f64 o.x] t) : Stps w b 0 1 (fun _ => o) :=
  ⟨h.lt, fun _ _ => ho, fun i hi => by obtain rfl : i = 0 := by omega
                                       exact h.cell 0, fun i hi => by obtain rfl : i = 0 := by omega
                                                                      exact h.cell 1, fun i hi => by obtain rfl : i = 0 := by omega
                                                                                                     exact h.cell 2⟩
end Go.Proofs.Ytbckfoldjlgabaa
