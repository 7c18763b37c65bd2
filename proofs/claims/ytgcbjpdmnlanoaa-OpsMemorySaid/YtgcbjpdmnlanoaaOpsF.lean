/- WALKS of ops: Key, One. -/
import Derived.Test.YtgcbjpdmnlanoaaOpsE
namespace Go.Proofs.Ytgcbjpdmnlanoaa
open Go.RowKit
open Fl (nan key canon)
set_option maxRecDepth 100000 in
set_option maxHeartbeats 1000000 in
theorem key_any (a : Option Addr) (len cap rb ro : Nat) (f : Nat → Stp) (r : Rc) (w : World) (hln : len ≤ 9223372036854775807) (ha : 0 < len → a = some ⟨rb, ro, none⟩) (hr : 0 < len → Stps w rb ro len f) (hok : r.ok) :
    Calls Try.prog 16 #[.slice a len cap, .agg #[.int .u64 r.key, .float .f64 r.val]] w fun e w' => e = .returned (.tuple #[.int .u64 (runOps f len r).1.key, .bool ((runOps f len r).2 == 1)]) ∧ Below w.heap.size w w' := by
  have HR := Lib.hid hr
  have C1 : Hid (∀ w2, Below w.heap.size w w2 → Calls Try.prog 14 #[.slice a len cap, .agg #[.int .u64 r.key, .float .f64 r.val]] w2 fun e w' => e = .returned (.tuple #[.agg #[.int .u64 (runOps f len r).1.key, .float .f64 (runOps f len r).1.val], .int .i64 (runOps f len r).2]) ∧ Below w2.heap.size w2 w') :=
    Lib.hid (fun w2 hb => run_any a len cap rb ro f r w2 hln ha (fun h => (HR.out h).keep hb (HR.out h).lt hb.size) hok _ rfl)
  generalize runOps f len r = T at *
  obtain ⟨⟨tk, tv⟩, tf⟩ := T
  clear hr hln ha hok HR
  dsimp only at *
  go_enter Try.func16, Try.ntmps16
  go_wp2_with fail
  refine (C1.out _ (by repeat' (first | with_reducible exact Below.refl _ _ | with_reducible assumption | with_reducible refine bel_drew ?_ | with_reducible refine bel_alloc ?_ _ | with_reducible refine bel_set ?_ ?_ _ | with_reducible refine bel_call ?_ (by assumption) | (dsimp only; omega) | (simp; done) | (simp; omega)))).mono ?_
  rintro e w1 ⟨rfl, hb⟩
  have p1 : Below w.heap.size w w1 := (by repeat' (first | with_reducible exact Below.refl _ _ | with_reducible assumption | with_reducible refine bel_drew ?_ | with_reducible refine bel_alloc ?_ _ | with_reducible refine bel_set ?_ ?_ _ | with_reducible refine bel_call ?_ (by assumption) | (dsimp only; omega) | (simp; done) | (simp; omega)))
  clear hb
  go_wp2_with fail
  go_ret2
  exact ⟨rfl, (by repeat' (first | with_reducible exact Below.refl _ _ | with_reducible assumption | with_reducible refine bel_drew ?_ | with_reducible refine bel_alloc ?_ _ | with_reducible refine bel_set ?_ ?_ _ | with_reducible refine bel_call ?_ (by assumption) | (dsimp only; omega) | (simp; done) | (simp; omega)))⟩
theorem stps_one {w : World} {b : Nat} {t : TypeId} {o : Stp} (ho : o.ok) (h : Blk w b [.int .i64 o.kind, .int .i64 o.n, .float .f64 o.x] t) : Stps w b 0 1 (fun _ => o) :=
  ⟨h.lt, fun _ _ => ho, fun i hi => by obtain rfl : i = 0 := by omega
                                       exact h.cell 0, fun i hi => by obtain rfl : i = 0 := by omega
                                                                      exact h.cell 1, fun i hi => by obtain rfl : i = 0 := by omega
                                                                                                     exact h.cell 2⟩
set_option maxRecDepth 100000 in
set_option maxHeartbeats 1000000 in
theorem one_any' (o : Stp) (r : Rc) (w : World) (ho : o.ok) (hok : r.ok) (T : Rc × Int) (hT : one o r = T) :
    Calls Try.prog 19 #[.agg #[.int .i64 o.kind, .int .i64 o.n, .float .f64 o.x], .agg #[.int .u64 r.key, .float .f64 r.val]] w fun e w' => e = .returned (.tuple #[.agg #[.int .u64 T.1.key, .float .f64 T.1.val], .int .i64 T.2]) ∧ Below w.heap.size w w' := by
  have c1 := fun w => isStep_any o w
  unfold one at hT
  cases hs : isStp o with
  | true =>
    rw [hs] at c1 hT
    rw [if_pos rfl] at hT
    have C1 := Lib.hid c1
    have C2 : Hid (∀ w2 b, Blk w2 b [.int .i64 o.kind, .int .i64 o.n, .float .f64 o.x] 40 → Calls Try.prog 30 #[.slice (some ⟨b, 0, none⟩) 1 1, .agg #[.int .u64 r.key, .float .f64 r.val]] w2 fun e w' => e = .returned (.tuple #[.agg #[.int .u64 T.1.key, .float .f64 T.1.val], .int .i64 T.2]) ∧ Below w2.heap.size w2 w') :=
      Lib.hid (fun w2 b hb => through_any (some ⟨b, 0, none⟩) 1 1 b 0 (fun _ => o) r w2 (by decide) (fun _ => rfl) (fun _ => stps_one ho hb) (fun _ _ => hs) hok T hT)
    clear c1 hT hs ho hok
    obtain ⟨kd, n, y⟩ := o
    dsimp only at *
    go_enter Try.func19, Try.ntmps19
    go_wp2_with fail
    refine (C1.out _).mono ?_
    rintro e w1 ⟨rfl, hb⟩
    have q0 : Blk w1 w.heap.size [.int .i64 kd, .int .i64 n, .float .f64 y] 40 := Blk.below (by repeat' (first | with_reducible assumption | (show (_ : List Value) = _; rfl) | with_reducible exact Blk.new _ _ rfl | (with_reducible refine Blk.new _ _ ?_; simp; done) | with_reducible apply Blk.set_eq | with_reducible apply Blk.other | with_reducible apply Blk.alloc | with_reducible apply Blk.drew | (simp; done) | (simp; omega))) hb
    have q1 : Blk w1 (w.heap.size + 1) [.int .u64 r.key, .float .f64 r.val] 31 := Blk.below (by repeat' (first | with_reducible assumption | (show (_ : List Value) = _; rfl) | with_reducible exact Blk.new _ _ rfl | (with_reducible refine Blk.new _ _ ?_; simp; done) | with_reducible apply Blk.set_eq | with_reducible apply Blk.other | with_reducible apply Blk.alloc | with_reducible apply Blk.drew | (simp; done) | (simp; omega))) hb
    have q2 : Blk w1 (w.heap.size + 1 + 1) [.int .u64 0, .float .f64 0] 31 := Blk.below (by repeat' (first | with_reducible assumption | (show (_ : List Value) = _; rfl) | with_reducible exact Blk.new _ _ rfl | (with_reducible refine Blk.new _ _ ?_; simp; done) | with_reducible apply Blk.set_eq | with_reducible apply Blk.other | with_reducible apply Blk.alloc | with_reducible apply Blk.drew | (simp; done) | (simp; omega))) hb
    have p1 : Below w.heap.size w w1 := (by repeat' (first | with_reducible exact Below.refl _ _ | with_reducible assumption | with_reducible refine bel_drew ?_ | with_reducible refine bel_alloc ?_ _ | with_reducible refine bel_set ?_ ?_ _ | with_reducible refine bel_call ?_ (by assumption) | (dsimp only; omega) | (simp; done) | (simp; omega)))
    clear hb
    have q0c0 : w1.cell? ⟨w.heap.size, 0, none⟩ = some (.int .i64 kd) := q0.cell 0; have q0c1 : w1.cell? ⟨w.heap.size, 1, none⟩ = some (.int .i64 n) := q0.cell 1; have q0c2 : w1.cell? ⟨w.heap.size, 2, none⟩ = some (.float .f64 y) := q0.cell 2; have q0z := q0.lt
    have q1c0 : w1.cell? ⟨(w.heap.size + 1), 0, none⟩ = some (.int .u64 r.key) := q1.cell 0; have q1c1 : w1.cell? ⟨(w.heap.size + 1), 1, none⟩ = some (.float .f64 r.val) := q1.cell 1; have q1z := q1.lt
    go_wp2_with fail
    refine (C2.out _ _ ?_).mono ?_
    · exact (by repeat' (first | with_reducible assumption | (show (_ : List Value) = _; rfl) | with_reducible exact Blk.new _ _ rfl | (with_reducible refine Blk.new _ _ ?_; simp; done) | with_reducible apply Blk.set_eq | with_reducible apply Blk.other | with_reducible apply Blk.alloc | with_reducible apply Blk.drew | (simp; done) | (simp; omega)))
    rintro e w2 ⟨rfl, hb⟩
    have r2 : Blk w2 (w.heap.size + 1 + 1) [.int .u64 0, .float .f64 0] 31 := Blk.below (by repeat' (first | with_reducible assumption | (show (_ : List Value) = _; rfl) | with_reducible exact Blk.new _ _ rfl | (with_reducible refine Blk.new _ _ ?_; simp; done) | with_reducible apply Blk.set_eq | with_reducible apply Blk.other | with_reducible apply Blk.alloc | with_reducible apply Blk.drew | (simp; done) | (simp; omega))) hb
    have p2 : Below w.heap.size w w2 := (by repeat' (first | with_reducible exact Below.refl _ _ | with_reducible assumption | with_reducible refine bel_drew ?_ | with_reducible refine bel_alloc ?_ _ | with_reducible refine bel_set ?_ ?_ _ | with_reducible refine bel_call ?_ (by assumption) | (dsimp only; omega) | (simp; done) | (simp; omega)))
    clear hb q0 q1 q2 q0c0 q0c1 q0c2 q0z q1c0 q1c1 q1z
    have r2c0 : w2.cell? ⟨(w.heap.size + 1 + 1), 0, none⟩ = some (.int .u64 0) := r2.cell 0; have r2c1 : w2.cell? ⟨(w.heap.size + 1 + 1), 1, none⟩ = some (.float .f64 0) := r2.cell 1; have r2z := r2.lt
    have r2f0 := r2.free 0
    have r2f1 := r2.free 1
    go_wp2_with fail
    refine ret_cell_tmp [.int .u64 T.1.key, .float .f64 T.1.val] Try.results19 rfl (Try.isAgg31 _) (Try.sizeOf31 _) (t := 31) ?_ rfl ?_; next => (exact (by repeat' (first | with_reducible assumption | (show (_ : List Value) = _; rfl) | with_reducible exact Blk.new _ _ rfl | (with_reducible refine Blk.new _ _ ?_; simp; done) | with_reducible apply Blk.set_eq | with_reducible apply Blk.other | with_reducible apply Blk.alloc | with_reducible apply Blk.drew | (simp; done) | (simp; omega))))
    exact ⟨rfl, (by repeat' (first | with_reducible exact Below.refl _ _ | with_reducible assumption | with_reducible refine bel_drew ?_ | with_reducible refine bel_alloc ?_ _ | with_reducible refine bel_set ?_ ?_ _ | with_reducible refine bel_call ?_ (by assumption) | (dsimp only; omega) | (simp; done) | (simp; omega)))⟩
  | false =>
    rw [hs] at c1 hT
    rw [if_neg (by decide)] at hT
    subst hT
    have C1 := Lib.hid c1
    clear c1 hs ho hok
    obtain ⟨kd, n, y⟩ := o
    dsimp only at *
    go_enter Try.func19, Try.ntmps19
    go_wp2_with fail
    refine (C1.out _).mono ?_
    rintro e w1 ⟨rfl, hb⟩
    have q2 : Blk w1 (w.heap.size + 1 + 1) [.int .u64 0, .float .f64 0] 31 := Blk.below (by repeat' (first | with_reducible assumption | (show (_ : List Value) = _; rfl) | with_reducible exact Blk.new _ _ rfl | (with_reducible refine Blk.new _ _ ?_; simp; done) | with_reducible apply Blk.set_eq | with_reducible apply Blk.other | with_reducible apply Blk.alloc | with_reducible apply Blk.drew | (simp; done) | (simp; omega))) hb
    have p1 : Below w.heap.size w w1 := (by repeat' (first | with_reducible exact Below.refl _ _ | with_reducible assumption | with_reducible refine bel_drew ?_ | with_reducible refine bel_alloc ?_ _ | with_reducible refine bel_set ?_ ?_ _ | with_reducible refine bel_call ?_ (by assumption) | (dsimp only; omega) | (simp; done) | (simp; omega)))
    clear hb
    have q2c0 : w1.cell? ⟨(w.heap.size + 1 + 1), 0, none⟩ = some (.int .u64 0) := q2.cell 0; have q2c1 : w1.cell? ⟨(w.heap.size + 1 + 1), 1, none⟩ = some (.float .f64 0) := q2.cell 1; have q2z := q2.lt
    have q2f0 := q2.free 0
    have q2f1 := q2.free 1
    go_wp2_with fail
    refine ret_cell_tmp [.int .u64 0, .float .f64 0] Try.results19 rfl (Try.isAgg31 _) (Try.sizeOf31 _) (t := 31) ?_ rfl ?_; next => (exact (by repeat' (first | with_reducible assumption | (show (_ : List Value) = _; rfl) | with_reducible exact Blk.new _ _ rfl | (with_reducible refine Blk.new _ _ ?_; simp; done) | with_reducible apply Blk.set_eq | with_reducible apply Blk.other | with_reducible apply Blk.alloc | with_reducible apply Blk.drew | (simp; done) | (simp; omega))))
    exact ⟨rfl, (by repeat' (first | with_reducible exact Below.refl _ _ | with_reducible assumption | with_reducible refine bel_drew ?_ | with_reducible refine bel_alloc ?_ _ | with_reducible refine bel_set ?_ ?_ _ | with_reducible refine bel_call ?_ (by assumption) | (dsimp only; omega) | (simp; done) | (simp; omega)))⟩
end Go.Proofs.Ytgcbjpdmnlanoaa
