/- WALKS of repriselaw03: same, awake, OpsCheck. -/
import Derived.Test.YtgcbjpdmnlanoaaOpsS
namespace Go.Proofs.Ytgcbjpdmnlanoaa
open Go.RowKit
open Fl (nan key canon)
def sameR (a b : Rc) : Bool := decide (a.key = b.key) && decide (a.val = b.val)
theorem sameR_self (a : Rc) : sameR a a = true := by unfold sameR; simp
set_option maxHeartbeats 400000 in
theorem osame_any (a b : Rc) (w : World) :
    Calls Try.prog 18 #[.agg #[.int .u64 a.key, .float .f64 a.val], .agg #[.int .u64 b.key, .float .f64 b.val]] w fun e w' => e = .returned (.bool (sameR a b)) ∧ Below w.heap.size w w' := by
  obtain ⟨ak, av⟩ := a
  obtain ⟨bk, bv⟩ := b
  have C1 := Lib.hid (fun w => rsame_any av bv w)
  unfold sameR
  dsimp only
  by_cases h : ak = bk
  · subst h
    rw [decide_eq_true rfl, Bool.true_and]
    generalize decide (av = bv) = d at *
    go_enter Try.func18, Try.ntmps18
    go_wp2_with fail
    refine (C1.out _).mono ?_
    rintro e v ⟨rfl, rfl⟩
    go_wp2_with fail
    go_ret
    exact ⟨rfl, (by repeat' (first | with_reducible exact Below.refl _ _ | with_reducible assumption | with_reducible refine bel_drew ?_ | with_reducible refine bel_alloc ?_ _ | with_reducible refine bel_set ?_ ?_ _ | with_reducible refine bel_call ?_ (by assumption) | (dsimp only; omega) | (simp; done) | (simp; omega)))⟩
  · rw [decide_eq_false h, Bool.false_and]
    have h2 : (ak == bk) = false := beq_eq_false_iff_ne.2 h
    clear h C1
    go_enter Try.func18, Try.ntmps18
    go_wp2_with fail
    go_ret
    exact ⟨rfl, (by repeat' (first | with_reducible exact Below.refl _ _ | with_reducible assumption | with_reducible refine bel_drew ?_ | with_reducible refine bel_alloc ?_ _ | with_reducible refine bel_set ?_ ?_ _ | with_reducible refine bel_call ?_ (by assumption) | (dsimp only; omega) | (simp; done) | (simp; omega)))⟩
theorem run_lit (o : Stp) (r : Rc) (k : Int) (v : Nat) (z : Int) (ho : o.ok) (hr : r.ok) (h : (runOps (fun _ => o) 1 r).1.key = k ∧ (runOps (fun _ => o) 1 r).1.val = v ∧ (runOps (fun _ => o) 1 r).2 = z) (w : World) (b : Nat) (hb : Blk w b [.int .i64 o.kind, .int .i64 o.n, .float .f64 o.x] 40) :
    Calls Try.prog 14 #[.slice (some ⟨b, 0, none⟩) 1 1, .agg #[.int .u64 r.key, .float .f64 r.val]] w fun e w' => e = .returned (.tuple #[.agg #[.int .u64 k, .float .f64 v], .int .i64 z]) ∧ Below w.heap.size w w' := by
  have c := run_any (some ⟨b, 0, none⟩) 1 1 b 0 (fun _ => o) r w (by decide) (fun _ => rfl) (fun _ => stps_one ho hb) hr _ rfl
  rw [h.1, h.2.1, h.2.2] at c
  exact c
set_option maxRecDepth 100000 in
set_option maxHeartbeats 4000000 in
theorem oawake_any (w : World) : Calls Try.prog 11 #[] w fun e w' => e = .returned (.bool true) ∧ Below w.heap.size w w' := by
  have okA : Stp.ok ⟨10, 7, 0⟩ := by unfold Stp.ok; decide
  have okB : Stp.ok ⟨1, 0, 4611686018427387904⟩ := by unfold Stp.ok; decide
  have okC : Stp.ok ⟨12, 0, 0⟩ := by unfold Stp.ok; decide
  have okD : Stp.ok ⟨13, 0, 0⟩ := by unfold Stp.ok; decide
  have C1 := Lib.hid (run_lit ⟨10, 7, 0⟩ ⟨1, 4613712638259704627⟩ 1 4613937818241073152 1 okA (by unfold Rc.ok; decide) (by decide +kernel))
  have C2 := Lib.hid (run_lit ⟨10, 7, 0⟩ ⟨1, 4602678819172646912⟩ 0 0 3 okA (by unfold Rc.ok; decide) (by decide +kernel))
  have c3 := fun w => one_any' ⟨1, 0, 4611686018427387904⟩ ⟨0, 4613937818241073152⟩ w okB (by unfold Rc.ok; decide) _ rfl
  rw [show (one ⟨1, 0, 4611686018427387904⟩ ⟨0, 4613937818241073152⟩).1.key = 0 by decide +kernel, show (one ⟨1, 0, 4611686018427387904⟩ ⟨0, 4613937818241073152⟩).1.val = 0 by decide +kernel, show (one ⟨1, 0, 4611686018427387904⟩ ⟨0, 4613937818241073152⟩).2 = 2 by decide +kernel] at c3
  have C3 := Lib.hid c3
  have c4 := fun w b (hb : Blk w b [.int .i64 12, .int .i64 0, .float .f64 0] 40) => key_any (some ⟨b, 0, none⟩) 1 1 b 0 (fun _ => ⟨12, 0, 0⟩) ⟨5, 0⟩ w (by decide) (fun _ => rfl) (fun _ => stps_one okC hb) (by unfold Rc.ok; decide)
  rw [show (runOps (fun _ => ⟨12, 0, 0⟩) 1 ⟨5, 0⟩).1.key = 21 by decide +kernel, show (runOps (fun _ => ⟨12, 0, 0⟩) 1 ⟨5, 0⟩).2 = 1 by decide +kernel, show ((1 : Int) == 1) = true from rfl] at c4
  have C4 := Lib.hid c4
  have C5 := Lib.hid (fun w => osame_any ⟨1, 4613937818241073152⟩ ⟨1, 4613937818241073152⟩ w)
  rw [sameR_self] at C5
  have c6 := fun w b (hb : Blk w b [.int .i64 13, .int .i64 0, .float .f64 0] 40) => check_any (some ⟨b, 0, none⟩) 1 1 b 0 (fun _ => ⟨13, 0, 0⟩) w (by decide) (fun _ => rfl) (fun _ => stps_one okD hb)
  rw [show chk (fun _ => ⟨13, 0, 0⟩) 1 = 30 by decide +kernel] at c6
  have C6 := Lib.hid c6
  clear c3 c4 c6 okA okB okC okD
  go_enter Try.func11, Try.ntmps11
  go_wp2_with fail
  refine (C1.out _ _ ?_).mono ?_
  · exact (by repeat' (first | with_reducible assumption | (show (_ : List Value) = _; rfl) | with_reducible exact Blk.new _ _ rfl | (with_reducible refine Blk.new _ _ ?_; simp; done) | with_reducible apply Blk.set_eq | with_reducible apply Blk.other | with_reducible apply Blk.alloc | with_reducible apply Blk.drew | (simp; done) | (simp; omega)))
  rintro e w1 ⟨rfl, hb⟩
  have p1 : Below w.heap.size w w1 := (by repeat' (first | with_reducible exact Below.refl _ _ | with_reducible assumption | with_reducible refine bel_drew ?_ | with_reducible refine bel_alloc ?_ _ | with_reducible refine bel_set ?_ ?_ _ | with_reducible refine bel_call ?_ (by assumption) | (dsimp only; omega) | (simp; done) | (simp; omega)))
  clear hb
  go_wp2_with fail
  refine (C2.out _ _ ?_).mono ?_
  · exact (by repeat' (first | with_reducible assumption | (show (_ : List Value) = _; rfl) | with_reducible exact Blk.new _ _ rfl | (with_reducible refine Blk.new _ _ ?_; simp; done) | with_reducible apply Blk.set_eq | with_reducible apply Blk.other | with_reducible apply Blk.alloc | with_reducible apply Blk.drew | (simp; done) | (simp; omega)))
  rintro e w2 ⟨rfl, hb⟩
  have q1 : Blk w2 w1.heap.size [.int .u64 1, .float .f64 4613937818241073152] 31 := Blk.below (by repeat' (first | with_reducible assumption | (show (_ : List Value) = _; rfl) | with_reducible exact Blk.new _ _ rfl | (with_reducible refine Blk.new _ _ ?_; simp; done) | with_reducible apply Blk.set_eq | with_reducible apply Blk.other | with_reducible apply Blk.alloc | with_reducible apply Blk.drew | (simp; done) | (simp; omega))) hb
  have p2 : Below w.heap.size w w2 := (by repeat' (first | with_reducible exact Below.refl _ _ | with_reducible assumption | with_reducible refine bel_drew ?_ | with_reducible refine bel_alloc ?_ _ | with_reducible refine bel_set ?_ ?_ _ | with_reducible refine bel_call ?_ (by assumption) | (dsimp only; omega) | (simp; done) | (simp; omega)))
  clear hb
  go_wp2_with fail
  refine (C3.out _).mono ?_
  rintro e w3 ⟨rfl, hb⟩
  have r1 : Blk w3 w1.heap.size [.int .u64 1, .float .f64 4613937818241073152] 31 := Blk.below (by repeat' (first | with_reducible assumption | (show (_ : List Value) = _; rfl) | with_reducible exact Blk.new _ _ rfl | (with_reducible refine Blk.new _ _ ?_; simp; done) | with_reducible apply Blk.set_eq | with_reducible apply Blk.other | with_reducible apply Blk.alloc | with_reducible apply Blk.drew | (simp; done) | (simp; omega))) hb
  have p3 : Below w.heap.size w w3 := (by repeat' (first | with_reducible exact Below.refl _ _ | with_reducible assumption | with_reducible refine bel_drew ?_ | with_reducible refine bel_alloc ?_ _ | with_reducible refine bel_set ?_ ?_ _ | with_reducible refine bel_call ?_ (by assumption) | (dsimp only; omega) | (simp; done) | (simp; omega)))
  clear hb q1
  go_wp2_with fail
  refine (C4.out _ _ ?_).mono ?_
  · exact (by repeat' (first | with_reducible assumption | (show (_ : List Value) = _; rfl) | with_reducible exact Blk.new _ _ rfl | (with_reducible refine Blk.new _ _ ?_; simp; done) | with_reducible apply Blk.set_eq | with_reducible apply Blk.other | with_reducible apply Blk.alloc | with_reducible apply Blk.drew | (simp; done) | (simp; omega)))
  rintro e w4 ⟨rfl, hb⟩
  have s1 : Blk w4 w1.heap.size [.int .u64 1, .float .f64 4613937818241073152] 31 := Blk.below (by repeat' (first | with_reducible assumption | (show (_ : List Value) = _; rfl) | with_reducible exact Blk.new _ _ rfl | (with_reducible refine Blk.new _ _ ?_; simp; done) | with_reducible apply Blk.set_eq | with_reducible apply Blk.other | with_reducible apply Blk.alloc | with_reducible apply Blk.drew | (simp; done) | (simp; omega))) hb
  have p4 : Below w.heap.size w w4 := (by repeat' (first | with_reducible exact Below.refl _ _ | with_reducible assumption | with_reducible refine bel_drew ?_ | with_reducible refine bel_alloc ?_ _ | with_reducible refine bel_set ?_ ?_ _ | with_reducible refine bel_call ?_ (by assumption) | (dsimp only; omega) | (simp; done) | (simp; omega)))
  clear hb r1
  have s1c0 : w4.cell? ⟨w1.heap.size, 0, none⟩ = some (.int .u64 1) := s1.cell 0; have s1c1 : w4.cell? ⟨w1.heap.size, 1, none⟩ = some (.float .f64 4613937818241073152) := s1.cell 1; have s1z := s1.lt
  go_wp2_with fail
  refine (C5.out _).mono ?_
  rintro e w5 ⟨rfl, hb⟩
  have p5 : Below w.heap.size w w5 := (by repeat' (first | with_reducible exact Below.refl _ _ | with_reducible assumption | with_reducible refine bel_drew ?_ | with_reducible refine bel_alloc ?_ _ | with_reducible refine bel_set ?_ ?_ _ | with_reducible refine bel_call ?_ (by assumption) | (dsimp only; omega) | (simp; done) | (simp; omega)))
  clear hb
  go_wp2_with fail
  refine (C6.out _ _ ?_).mono ?_
  · exact (by repeat' (first | with_reducible assumption | (show (_ : List Value) = _; rfl) | with_reducible exact Blk.new _ _ rfl | (with_reducible refine Blk.new _ _ ?_; simp; done) | with_reducible apply Blk.set_eq | with_reducible apply Blk.other | with_reducible apply Blk.alloc | with_reducible apply Blk.drew | (simp; done) | (simp; omega)))
  rintro e w6 ⟨rfl, hb⟩
  have p6 : Below w.heap.size w w6 := (by repeat' (first | with_reducible exact Below.refl _ _ | with_reducible assumption | with_reducible refine bel_drew ?_ | with_reducible refine bel_alloc ?_ _ | with_reducible refine bel_set ?_ ?_ _ | with_reducible refine bel_call ?_ (by assumption) | (dsimp only; omega) | (simp; done) | (simp; omega)))
  clear hb
  go_wp2_with fail
  go_ret
  exact ⟨rfl, (by repeat' (first | with_reducible exact Below.refl _ _ | with_reducible assumption | with_reducible refine bel_drew ?_ | with_reducible refine bel_alloc ?_ _ | with_reducible refine bel_set ?_ ?_ _ | with_reducible refine bel_call ?_ (by assumption) | (dsimp only; omega) | (simp; done) | (simp; omega)))⟩
set_option maxRecDepth 100000 in
set_option maxHeartbeats 1000000 in
theorem lcheck_any (a : Option Addr) (len cap rb ro : Nat) (f : Nat → Stp) (w : World) (hln : len ≤ 9223372036854775807) (ha : 0 < len → a = some ⟨rb, ro, none⟩) (hr : 0 < len → Stps w rb ro len f) :
    Calls Try.prog 3 #[.slice a len cap] w fun e w' => e = .returned (.bool true) ∧ Below w.heap.size w w' := by
  have HR := Lib.hid hr
  have C0 := Lib.hid oawake_any
  have C1 : Hid (∀ w2, Below w.heap.size w w2 → Calls Try.prog 12 #[.slice a len cap] w2 fun e w' => e = .returned (.int .i64 (chk f len)) ∧ Below w2.heap.size w2 w') := Lib.hid (fun w2 hb => check_any a len cap rb ro f w2 hln ha (fun h => (HR.out h).keep hb (HR.out h).lt hb.size))
  have C2 : Hid (∀ w2, Below w.heap.size w w2 → Calls Try.prog 13 #[.slice a len cap] w2 fun e w' => e = .returned (.int .i64 (chk f len)) ∧ Below w2.heap.size w2 w') := Lib.hid (fun w2 hb => rcheck_any a len cap rb ro f w2 hln ha (fun h => (HR.out h).keep hb (HR.out h).lt hb.size))
  generalize chk f len = c at *
  clear hr HR hln ha
  have hcc : (c == c) = true := by simp
  go_enter Try.func3, Try.ntmps3
  go_wp2_with fail
  refine (C0.out _).mono ?_
  rintro e w1 ⟨rfl, hb⟩
  have p1 : Below w.heap.size w w1 := (by repeat' (first | with_reducible exact Below.refl _ _ | with_reducible assumption | with_reducible refine bel_drew ?_ | with_reducible refine bel_alloc ?_ _ | with_reducible refine bel_set ?_ ?_ _ | with_reducible refine bel_call ?_ (by assumption) | (dsimp only; omega) | (simp; done) | (simp; omega)))
  clear hb
  go_wp2_with fail
  refine (C1.out _ (by repeat' (first | with_reducible exact Below.refl _ _ | with_reducible assumption | with_reducible refine bel_drew ?_ | with_reducible refine bel_alloc ?_ _ | with_reducible refine bel_set ?_ ?_ _ | with_reducible refine bel_call ?_ (by assumption) | (dsimp only; omega) | (simp; done) | (simp; omega)))).mono ?_
  rintro e w2 ⟨rfl, hb⟩
  have p2 : Below w.heap.size w w2 := (by repeat' (first | with_reducible exact Below.refl _ _ | with_reducible assumption | with_reducible refine bel_drew ?_ | with_reducible refine bel_alloc ?_ _ | with_reducible refine bel_set ?_ ?_ _ | with_reducible refine bel_call ?_ (by assumption) | (dsimp only; omega) | (simp; done) | (simp; omega)))
  clear hb
  go_wp2_with fail
  refine (C2.out _ (by repeat' (first | with_reducible exact Below.refl _ _ | with_reducible assumption | with_reducible refine bel_drew ?_ | with_reducible refine bel_alloc ?_ _ | with_reducible refine bel_set ?_ ?_ _ | with_reducible refine bel_call ?_ (by assumption) | (dsimp only; omega) | (simp; done) | (simp; omega)))).mono ?_
  rintro e w3 ⟨rfl, hb⟩
  have p3 : Below w.heap.size w w3 := (by repeat' (first | with_reducible exact Below.refl _ _ | with_reducible assumption | with_reducible refine bel_drew ?_ | with_reducible refine bel_alloc ?_ _ | with_reducible refine bel_set ?_ ?_ _ | with_reducible refine bel_call ?_ (by assumption) | (dsimp only; omega) | (simp; done) | (simp; omega)))
  clear hb
  go_wp2_with fail
  go_ret
  exact ⟨rfl, (by repeat' (first | with_reducible exact Below.refl _ _ | with_reducible assumption | with_reducible refine bel_drew ?_ | with_reducible refine bel_alloc ?_ _ | with_reducible refine bel_set ?_ ?_ _ | with_reducible refine bel_call ?_ (by assumption) | (dsimp only; omega) | (simp; done) | (simp; omega)))⟩
end Go.Proofs.Ytgcbjpdmnlanoaa
