/- WALKS of the reference of ops: One and what it calls. -/
import Derived.Test.YtbckfoldjlgabaaOpsF
namespace Go.Proofs.Ytbckfoldjlgabaa
open Go.RowKit
open Fl (nan key canon)
theorem xor_sign {b : Nat} (hb : b < 2 ^ 64) : bits .xor .u64 (b : Int) 9223372036854775808 = ((Fl.flip b : Nat) : Int) := by
  refine (u64_xor_nat b 9223372036854775808 hb (by decide)).trans ?_
  exact congrArg _ (Fl.flip_xor hb)
set_option maxHeartbeats 400000 in
theorem turned_any (b : Nat) (w : World) (hb : b < 2 ^ 64) :
    Calls Try.prog 78 #[.float .f64 b] w fun e w' => e = .returned (.float .f64 (Fl.flip b)) ∧ w = w' := by
  have C1 := Lib.hid (fun w => rbits_any b w)
  have h := xor_sign hb
  have C2 := Lib.hid (fun w => rfrom_any (Fl.flip b) w)
  clear hb
  generalize Fl.flip b = r at *
  go_enter Try.func78, Try.ntmps78
  go_wp2_with fail
  refine (C1.out _).mono ?_
  rintro e v ⟨rfl, rfl⟩
  go_wp2_with fail
  refine (C2.out _).mono ?_
  rintro e v ⟨rfl, rfl⟩
  go_wp2_with fail
  go_ret
  exact ⟨rfl, rfl⟩
set_option maxHeartbeats 400000 in
theorem sized_any (b : Nat) (w : World) (hb : b < 2 ^ 64) :
    Calls Try.prog 79 #[.float .f64 b] w fun e w' => e = .returned (.float .f64 (ab b)) ∧ w = w' := by
  have C1 := Lib.hid (fun w => rbits_any b w)
  have h := andNot_ab hb
  have C2 := Lib.hid (fun w => rfrom_any (ab b) w)
  clear hb
  generalize ab b = r at *
  go_enter Try.func79, Try.ntmps79
  go_wp2_with fail
  refine (C1.out _).mono ?_
  rintro e v ⟨rfl, rfl⟩
  go_wp2_with fail
  refine (C2.out _).mono ?_
  rintro e v ⟨rfl, rfl⟩
  go_wp2_with fail
  go_ret
  exact ⟨rfl, rfl⟩
set_option maxHeartbeats 400000 in
theorem per_any (n m : Int) (w : World) (hm : ¬ m = 0) :
    Calls Try.prog 84 #[.int .i64 n, .int .i64 m] w fun e w' => e = .returned (.int .i64 (wrap64 (n.tdiv m))) ∧ w = w' := by
  by_cases h : m = -1
  · subst h
    have e1 : n.tdiv (-1) = -n := by rw [Int.tdiv_neg, Int.tdiv_one]
    rw [e1]
    go_enter Try.func84, Try.ntmps84
    go_wp2
    go_ret
    exact ⟨by first | rfl | simp [wrap64, IntKind.wrap_i64], rfl⟩
  · have h2 : (m == -1) = false := beq_eq_false_iff_ne.2 h
    go_enter Try.func84, Try.ntmps84
    go_wp2
    go_ret
    exact ⟨by first | rfl | simp [wrap64, IntKind.wrap_i64], rfl⟩
set_option maxHeartbeats 400000 in
theorem rof_any (n : Int) (w : World) :
    Calls Try.prog 83 #[.int .i64 n] w fun e w' => e = .returned (.float .f64 (floatOfInt .f64 n)) ∧ w = w' := by
  go_enter Try.func83, Try.ntmps83
  go_wp2
  go_ret
  exact ⟨rfl, rfl⟩
theorem one_no {o : Stp} {r : Rc} (h : isStp o = false) : one o r = (⟨0, 0⟩, 0) := by unfold one; rw [h]; rfl
theorem one_yes {o : Stp} {r : Rc} (h : isStp o = true) (hf : fate o (canon r.val) = 1) : one o r = (⟨nkey o r.key (canon r.val), nval o (canon r.val)⟩, 1) := by
  unfold one thru
  rw [h, if_pos rfl, if_pos hf]
  rfl
theorem one_else {o : Stp} {r : Rc} {z : Int} (h : isStp o = true) (hf : fate o (canon r.val) = z) (hz : z ≠ 1) : one o r = (⟨0, 0⟩, z) := by
  unfold one thru
  rw [h, if_pos rfl, if_neg (by rw [hf]; exact hz), hf]
set_option maxRecDepth 100000 in
set_option maxHeartbeats 1000000 in
theorem rone_no (o : Stp) (k : Int) (x : Nat) (w : World) (hs : isStp o = false) :
    Calls Try.prog 72 #[.agg #[.int .i64 o.kind, .int .i64 o.n, .float .f64 o.x], .agg #[.int .u64 k, .float .f64 x]] w fun e w' => e = .returned (.tuple #[.agg #[.int .u64 (one o ⟨k, x⟩).1.key, .float .f64 (one o ⟨k, x⟩).1.val], .int .i64 (one o ⟨k, x⟩).2]) ∧ Below w.heap.size w w' := by
  have c1 := fun w => rstep_any o w
  rw [hs] at c1
  rw [one_no hs]
  dsimp only
  have C1 := Lib.hid c1
  clear c1 hs
  obtain ⟨kd, n, y⟩ := o
  dsimp only at *
  go_enter Try.func72, Try.ntmps72
  go_wp2_with fail
  refine (C1.out _).mono ?_
  rintro e w1 ⟨rfl, hb⟩
  have q2 : Blk w1 (w.heap.size + 1 + 1) [.int .u64 0, .float .f64 0] 66 := Blk.below (by repeat' (first | with_reducible assumption | (show (_ : List Value) = _; rfl) | with_reducible exact Blk.new _ _ rfl | (with_reducible refine Blk.new _ _ ?_; simp; done) | with_reducible apply Blk.set_eq | with_reducible apply Blk.other | with_reducible apply Blk.alloc | with_reducible apply Blk.drew | (simp; done) | (simp; omega))) hb
  have p1 : Below w.heap.size w w1 := (by repeat' (first | with_reducible exact Below.refl _ _ | with_reducible assumption | with_reducible refine bel_drew ?_ | with_reducible refine bel_alloc ?_ _ | with_reducible refine bel_set ?_ ?_ _ | with_reducible refine bel_call ?_ (by assumption) | (dsimp only; omega) | (simp; done) | (simp; omega)))
  clear hb
  have q2c0 : w1.cell? ⟨(w.heap.size + 1 + 1), 0, none⟩ = some (.int .u64 0) := q2.cell 0; have q2c1 : w1.cell? ⟨(w.heap.size + 1 + 1), 1, none⟩ = some (.float .f64 0) := q2.cell 1; have q2z := q2.lt
  have q2f0 := q2.free 0
  have q2f1 := q2.free 1
  go_wp2_with fail
  refine ret_cell_tmp [.int .u64 0, .float .f64 0] Try.results72 rfl (Try.isAgg66 _) (Try.sizeOf66 _) (t := 66) ?_ rfl ?_; next => (exact (by repeat' (first | with_reducible assumption | (show (_ : List Value) = _; rfl) | with_reducible exact Blk.new _ _ rfl | (with_reducible refine Blk.new _ _ ?_; simp; done) | with_reducible apply Blk.set_eq | with_reducible apply Blk.other | with_reducible apply Blk.alloc | with_reducible apply Blk.drew | (simp; done) | (simp; omega))))
  exact ⟨rfl, (by repeat' (first | with_reducible exact Below.refl _ _ | with_reducible assumption | with_reducible refine bel_drew ?_ | with_reducible refine bel_alloc ?_ _ | with_reducible refine bel_set ?_ ?_ _ | with_reducible refine bel_call ?_ (by assumption) | (dsimp only; omega) | (simp; done) | (simp; omega)))⟩
set_option maxRecDepth 100000 in
set_option maxHeartbeats 1000000 in
theorem rone1_keep (n : Int) (y : Nat) (k : Int) (x : Nat) (w : World) (ho : Stp.ok ⟨1, n, y⟩) (hr : Rc.ok ⟨k, x⟩) (hf' : flt (canon x) y = true) :
    Calls Try.prog 72 #[.agg #[.int .i64 1, .int .i64 n, .float .f64 y], .agg #[.int .u64 k, .float .f64 x]] w fun e w' => e = .returned (.tuple #[.agg #[.int .u64 (one ⟨1, n, y⟩ ⟨k, x⟩).1.key, .float .f64 (one ⟨1, n, y⟩ ⟨k, x⟩).1.val], .int .i64 (one ⟨1, n, y⟩ ⟨k, x⟩).2]) ∧ Below w.heap.size w w' := by
  obtain ⟨_, _, hn1, hn2, hy⟩ := ho
  obtain ⟨hk0, hk1, hx⟩ := hr
  dsimp only at *
  have c1 := fun w => rstep_any ⟨1, n, y⟩ w
  dsimp only at c1
  have C2 := Lib.hid (fun w => rcanon_any x w hx)
  have hc := Fl.canon_lt hx
  have hcc := Fl.canon_canon x
  have hs : isStp ⟨1, n, y⟩ = true := by unfold isStp; dsimp only; rw [if_neg (show ¬ (1 : Int) = 7 by decide), if_neg (show ¬ (1 : Int) = 11 by decide)]; rfl
  rw [hs] at c1
  have C1 := Lib.hid c1
  clear c1
  have hf : fate ⟨1, n, y⟩ (canon x) = 1 := by
    unfold fate
    dsimp only
    rw [if_pos rfl, if_pos hf']
  have hnk : nkey ⟨1, n, y⟩ k (canon x) = k := by unfold nkey; dsimp only; rw [if_neg (show ¬ (1 : Int) = 11 by decide), if_neg (show ¬ (1 : Int) = 12 by decide)]
  have hnv : nval ⟨1, n, y⟩ (canon x) = canon x := by unfold nval; dsimp only; rw [if_neg (show ¬ (1 : Int) = 4 by decide), if_neg (show ¬ (1 : Int) = 5 by decide), if_neg (show ¬ (1 : Int) = 6 by decide), if_neg (show ¬ (1 : Int) = 7 by decide), if_neg (show ¬ (1 : Int) = 8 by decide), if_neg (show ¬ (1 : Int) = 10 by decide)]
  rw [one_yes (r := ⟨k, x⟩) hs hf, hnk, hnv]
  dsimp only
  have g1 := lss_flt 64 hc hy
  rw [hf'] at g1
  have C3 := Lib.hid (fun w => rcanon_any (canon x) w hc)
  rw [hcc] at C3
  clear hf hf' hs hnk hnv
  clear hc hcc hx hy hn1 hn2
  generalize canon x = c at *
  go_enter Try.func72, Try.ntmps72
  go_wp2_with fail
  refine (C1.out _).mono ?_
  rintro e w1 ⟨rfl, hb⟩
  have q0 : Blk w1 w.heap.size [.int .i64 1, .int .i64 n, .float .f64 y] 73 := Blk.below (by repeat' (first | with_reducible assumption | (show (_ : List Value) = _; rfl) | with_reducible exact Blk.new _ _ rfl | (with_reducible refine Blk.new _ _ ?_; simp; done) | with_reducible apply Blk.set_eq | with_reducible apply Blk.other | with_reducible apply Blk.alloc | with_reducible apply Blk.drew | (simp; done) | (simp; omega))) hb
  have q1 : Blk w1 (w.heap.size + 1) [.int .u64 k, .float .f64 x] 66 := Blk.below (by repeat' (first | with_reducible assumption | (show (_ : List Value) = _; rfl) | with_reducible exact Blk.new _ _ rfl | (with_reducible refine Blk.new _ _ ?_; simp; done) | with_reducible apply Blk.set_eq | with_reducible apply Blk.other | with_reducible apply Blk.alloc | with_reducible apply Blk.drew | (simp; done) | (simp; omega))) hb
  have q2 : Blk w1 (w.heap.size + 1 + 1) [.int .u64 0, .float .f64 0] 66 := Blk.below (by repeat' (first | with_reducible assumption | (show (_ : List Value) = _; rfl) | with_reducible exact Blk.new _ _ rfl | (with_reducible refine Blk.new _ _ ?_; simp; done) | with_reducible apply Blk.set_eq | with_reducible apply Blk.other | with_reducible apply Blk.alloc | with_reducible apply Blk.drew | (simp; done) | (simp; omega))) hb
  have p1 : Below w.heap.size w w1 := (by repeat' (first | with_reducible exact Below.refl _ _ | with_reducible assumption | with_reducible refine bel_drew ?_ | with_reducible refine bel_alloc ?_ _ | with_reducible refine bel_set ?_ ?_ _ | with_reducible refine bel_call ?_ (by assumption) | (dsimp only; omega) | (simp; done) | (simp; omega)))
  clear hb
  have q0c0 : w1.cell? ⟨w.heap.size, 0, none⟩ = some (.int .i64 1) := q0.cell 0; have q0c1 : w1.cell? ⟨w.heap.size, 1, none⟩ = some (.int .i64 n) := q0.cell 1; have q0c2 : w1.cell? ⟨w.heap.size, 2, none⟩ = some (.float .f64 y) := q0.cell 2; have q0z := q0.lt
  have q1c0 : w1.cell? ⟨(w.heap.size + 1), 0, none⟩ = some (.int .u64 k) := q1.cell 0; have q1c1 : w1.cell? ⟨(w.heap.size + 1), 1, none⟩ = some (.float .f64 x) := q1.cell 1; have q1z := q1.lt
  have q2c0 : w1.cell? ⟨(w.heap.size + 1 + 1), 0, none⟩ = some (.int .u64 0) := q2.cell 0; have q2c1 : w1.cell? ⟨(w.heap.size + 1 + 1), 1, none⟩ = some (.float .f64 0) := q2.cell 1; have q2z := q2.lt
  have q2f0 := q2.free 0
  have q2f1 := q2.free 1
  go_wp2_with fail
  refine (C2.out _).mono ?_
  rintro e v ⟨rfl, rfl⟩
  go_wp2_with fail
  refine (C3.out _).mono ?_
  rintro e v ⟨rfl, rfl⟩
  go_wp2_with fail
  refine ret_cell_tmp [.int .u64 k, .float .f64 c] Try.results72 rfl (Try.isAgg66 _) (Try.sizeOf66 _) (t := 66) ?_ rfl ?_; next => (exact (by repeat' (first | with_reducible assumption | (show (_ : List Value) = _; rfl) | with_reducible exact Blk.new _ _ rfl | (with_reducible refine Blk.new _ _ ?_; simp; done) | with_reducible apply Blk.set_eq | with_reducible apply Blk.other | with_reducible apply Blk.alloc | with_reducible apply Blk.drew | (simp; done) | (simp; omega))))
  exact ⟨rfl, (by repeat' (first | with_reducible exact Below.refl _ _ | with_reducible assumption | with_reducible refine bel_drew ?_ | with_reducible refine bel_alloc ?_ _ | with_reducible refine bel_set ?_ ?_ _ | with_reducible refine bel_call ?_ (by assumption) | (dsimp only; omega) | (simp; done) | (simp; omega)))⟩
set_option maxRecDepth 100000 in
set_option maxHeartbeats 1000000 in
theorem rone1_drop (n : Int) (y : Nat) (k : Int) (x : Nat) (w : World) (ho : Stp.ok ⟨1, n, y⟩) (hr : Rc.ok ⟨k, x⟩) (hf' : flt (canon x) y = false) :
    Calls Try.prog 72 #[.agg #[.int .i64 1, .int .i64 n, .float .f64 y], .agg #[.int .u64 k, .float .f64 x]] w fun e w' => e = .returned (.tuple #[.agg #[.int .u64 (one ⟨1, n, y⟩ ⟨k, x⟩).1.key, .float .f64 (one ⟨1, n, y⟩ ⟨k, x⟩).1.val], .int .i64 (one ⟨1, n, y⟩ ⟨k, x⟩).2]) ∧ Below w.heap.size w w' := by
  obtain ⟨_, _, hn1, hn2, hy⟩ := ho
  obtain ⟨hk0, hk1, hx⟩ := hr
  dsimp only at *
  have c1 := fun w => rstep_any ⟨1, n, y⟩ w
  dsimp only at c1
  have C2 := Lib.hid (fun w => rcanon_any x w hx)
  have hc := Fl.canon_lt hx
  have hcc := Fl.canon_canon x
  have hs : isStp ⟨1, n, y⟩ = true := by unfold isStp; dsimp only; rw [if_neg (show ¬ (1 : Int) = 7 by decide), if_neg (show ¬ (1 : Int) = 11 by decide)]; rfl
  rw [hs] at c1
  have C1 := Lib.hid c1
  clear c1
  have hf : fate ⟨1, n, y⟩ (canon x) = 2 := by
    unfold fate
    dsimp only
    rw [if_pos rfl, if_neg (by rw [hf']; decide)]
  rw [one_else (r := ⟨k, x⟩) hs hf (by decide)]
  dsimp only
  have g1 := lss_flt 64 hc hy
  rw [hf'] at g1
  clear hf hf' hs
  clear hc hcc hx hy hn1 hn2
  generalize canon x = c at *
  go_enter Try.func72, Try.ntmps72
  go_wp2_with fail
  refine (C1.out _).mono ?_
  rintro e w1 ⟨rfl, hb⟩
  have q0 : Blk w1 w.heap.size [.int .i64 1, .int .i64 n, .float .f64 y] 73 := Blk.below (by repeat' (first | with_reducible assumption | (show (_ : List Value) = _; rfl) | with_reducible exact Blk.new _ _ rfl | (with_reducible refine Blk.new _ _ ?_; simp; done) | with_reducible apply Blk.set_eq | with_reducible apply Blk.other | with_reducible apply Blk.alloc | with_reducible apply Blk.drew | (simp; done) | (simp; omega))) hb
  have q1 : Blk w1 (w.heap.size + 1) [.int .u64 k, .float .f64 x] 66 := Blk.below (by repeat' (first | with_reducible assumption | (show (_ : List Value) = _; rfl) | with_reducible exact Blk.new _ _ rfl | (with_reducible refine Blk.new _ _ ?_; simp; done) | with_reducible apply Blk.set_eq | with_reducible apply Blk.other | with_reducible apply Blk.alloc | with_reducible apply Blk.drew | (simp; done) | (simp; omega))) hb
  have q2 : Blk w1 (w.heap.size + 1 + 1) [.int .u64 0, .float .f64 0] 66 := Blk.below (by repeat' (first | with_reducible assumption | (show (_ : List Value) = _; rfl) | with_reducible exact Blk.new _ _ rfl | (with_reducible refine Blk.new _ _ ?_; simp; done) | with_reducible apply Blk.set_eq | with_reducible apply Blk.other | with_reducible apply Blk.alloc | with_reducible apply Blk.drew | (simp; done) | (simp; omega))) hb
  have p1 : Below w.heap.size w w1 := (by repeat' (first | with_reducible exact Below.refl _ _ | with_reducible assumption | with_reducible refine bel_drew ?_ | with_reducible refine bel_alloc ?_ _ | with_reducible refine bel_set ?_ ?_ _ | with_reducible refine bel_call ?_ (by assumption) | (dsimp only; omega) | (simp; done) | (simp; omega)))
  clear hb
  have q0c0 : w1.cell? ⟨w.heap.size, 0, none⟩ = some (.int .i64 1) := q0.cell 0; have q0c1 : w1.cell? ⟨w.heap.size, 1, none⟩ = some (.int .i64 n) := q0.cell 1; have q0c2 : w1.cell? ⟨w.heap.size, 2, none⟩ = some (.float .f64 y) := q0.cell 2; have q0z := q0.lt
  have q1c0 : w1.cell? ⟨(w.heap.size + 1), 0, none⟩ = some (.int .u64 k) := q1.cell 0; have q1c1 : w1.cell? ⟨(w.heap.size + 1), 1, none⟩ = some (.float .f64 x) := q1.cell 1; have q1z := q1.lt
  have q2c0 : w1.cell? ⟨(w.heap.size + 1 + 1), 0, none⟩ = some (.int .u64 0) := q2.cell 0; have q2c1 : w1.cell? ⟨(w.heap.size + 1 + 1), 1, none⟩ = some (.float .f64 0) := q2.cell 1; have q2z := q2.lt
  have q2f0 := q2.free 0
  have q2f1 := q2.free 1
  go_wp2_with fail
  refine (C2.out _).mono ?_
  rintro e v ⟨rfl, rfl⟩
  go_wp2_with fail
  refine ret_cell_tmp [.int .u64 0, .float .f64 0] Try.results72 rfl (Try.isAgg66 _) (Try.sizeOf66 _) (t := 66) ?_ rfl ?_; next => (exact (by repeat' (first | with_reducible assumption | (show (_ : List Value) = _; rfl) | with_reducible exact Blk.new _ _ rfl | (with_reducible refine Blk.new _ _ ?_; simp; done) | with_reducible apply Blk.set_eq | with_reducible apply Blk.other | with_reducible apply Blk.alloc | with_reducible apply Blk.drew | (simp; done) | (simp; omega))))
  exact ⟨rfl, (by repeat' (first | with_reducible exact Below.refl _ _ | with_reducible assumption | with_reducible refine bel_drew ?_ | with_reducible refine bel_alloc ?_ _ | with_reducible refine bel_set ?_ ?_ _ | with_reducible refine bel_call ?_ (by assumption) | (dsimp only; omega) | (simp; done) | (simp; omega)))⟩
set_option maxRecDepth 100000 in
set_option maxHeartbeats 1000000 in
theorem rone2_keep (n : Int) (y : Nat) (k : Int) (x : Nat) (w : World) (ho : Stp.ok ⟨2, n, y⟩) (hr : Rc.ok ⟨k, x⟩) (hf' : flt y (canon x) = true) :
    Calls Try.prog 72 #[.agg #[.int .i64 2, .int .i64 n, .float .f64 y], .agg #[.int .u64 k, .float .f64 x]] w fun e w' => e = .returned (.tuple #[.agg #[.int .u64 (one ⟨2, n, y⟩ ⟨k, x⟩).1.key, .float .f64 (one ⟨2, n, y⟩ ⟨k, x⟩).1.val], .int .i64 (one ⟨2, n, y⟩ ⟨k, x⟩).2]) ∧ Below w.heap.size w w' := by
  obtain ⟨_, _, hn1, hn2, hy⟩ := ho
  obtain ⟨hk0, hk1, hx⟩ := hr
  dsimp only at *
  have c1 := fun w => rstep_any ⟨2, n, y⟩ w
  dsimp only at c1
  have C2 := Lib.hid (fun w => rcanon_any x w hx)
  have hc := Fl.canon_lt hx
  have hcc := Fl.canon_canon x
  have hs : isStp ⟨2, n, y⟩ = true := by unfold isStp; dsimp only; rw [if_neg (show ¬ (2 : Int) = 7 by decide), if_neg (show ¬ (2 : Int) = 11 by decide)]; rfl
  rw [hs] at c1
  have C1 := Lib.hid c1
  clear c1
  have hf : fate ⟨2, n, y⟩ (canon x) = 1 := by
    unfold fate
    dsimp only
    rw [if_neg (show ¬ (2 : Int) = 1 by decide), if_pos rfl, if_pos hf']
  have hnk : nkey ⟨2, n, y⟩ k (canon x) = k := by unfold nkey; dsimp only; rw [if_neg (show ¬ (2 : Int) = 11 by decide), if_neg (show ¬ (2 : Int) = 12 by decide)]
  have hnv : nval ⟨2, n, y⟩ (canon x) = canon x := by unfold nval; dsimp only; rw [if_neg (show ¬ (2 : Int) = 4 by decide), if_neg (show ¬ (2 : Int) = 5 by decide), if_neg (show ¬ (2 : Int) = 6 by decide), if_neg (show ¬ (2 : Int) = 7 by decide), if_neg (show ¬ (2 : Int) = 8 by decide), if_neg (show ¬ (2 : Int) = 10 by decide)]
  rw [one_yes (r := ⟨k, x⟩) hs hf, hnk, hnv]
  dsimp only
  have g1 := gtr_flt 64 hc hy
  rw [hf'] at g1
  have C3 := Lib.hid (fun w => rcanon_any (canon x) w hc)
  rw [hcc] at C3
  clear hf hf' hs hnk hnv
  clear hc hcc hx hy hn1 hn2
  generalize canon x = c at *
  go_enter Try.func72, Try.ntmps72
  go_wp2_with fail
  refine (C1.out _).mono ?_
  rintro e w1 ⟨rfl, hb⟩
  have q0 : Blk w1 w.heap.size [.int .i64 2, .int .i64 n, .float .f64 y] 73 := Blk.below (by repeat' (first | with_reducible assumption | (show (_ : List Value) = _; rfl) | with_reducible exact Blk.new _ _ rfl | (with_reducible refine Blk.new _ _ ?_; simp; done) | with_reducible apply Blk.set_eq | with_reducible apply Blk.other | with_reducible apply Blk.alloc | with_reducible apply Blk.drew | (simp; done) | (simp; omega))) hb
  have q1 : Blk w1 (w.heap.size + 1) [.int .u64 k, .float .f64 x] 66 := Blk.below (by repeat' (first | with_reducible assumption | (show (_ : List Value) = _; rfl) | with_reducible exact Blk.new _ _ rfl | (with_reducible refine Blk.new _ _ ?_; simp; done) | with_reducible apply Blk.set_eq | with_reducible apply Blk.other | with_reducible apply Blk.alloc | with_reducible apply Blk.drew | (simp; done) | (simp; omega))) hb
  have q2 : Blk w1 (w.heap.size + 1 + 1) [.int .u64 0, .float .f64 0] 66 := Blk.below (by repeat' (first | with_reducible assumption | (show (_ : List Value) = _; rfl) | with_reducible exact Blk.new _ _ rfl | (with_reducible refine Blk.new _ _ ?_; simp; done) | with_reducible apply Blk.set_eq | with_reducible apply Blk.other | with_reducible apply Blk.alloc | with_reducible apply Blk.drew | (simp; done) | (simp; omega))) hb
  have p1 : Below w.heap.size w w1 := (by repeat' (first | with_reducible exact Below.refl _ _ | with_reducible assumption | with_reducible refine bel_drew ?_ | with_reducible refine bel_alloc ?_ _ | with_reducible refine bel_set ?_ ?_ _ | with_reducible refine bel_call ?_ (by assumption) | (dsimp only; omega) | (simp; done) | (simp; omega)))
  clear hb
  have q0c0 : w1.cell? ⟨w.heap.size, 0, none⟩ = some (.int .i64 2) := q0.cell 0; have q0c1 : w1.cell? ⟨w.heap.size, 1, none⟩ = some (.int .i64 n) := q0.cell 1; have q0c2 : w1.cell? ⟨w.heap.size, 2, none⟩ = some (.float .f64 y) := q0.cell 2; have q0z := q0.lt
  have q1c0 : w1.cell? ⟨(w.heap.size + 1), 0, none⟩ = some (.int .u64 k) := q1.cell 0; have q1c1 : w1.cell? ⟨(w.heap.size + 1), 1, none⟩ = some (.float .f64 x) := q1.cell 1; have q1z := q1.lt
  have q2c0 : w1.cell? ⟨(w.heap.size + 1 + 1), 0, none⟩ = some (.int .u64 0) := q2.cell 0; have q2c1 : w1.cell? ⟨(w.heap.size + 1 + 1), 1, none⟩ = some (.float .f64 0) := q2.cell 1; have q2z := q2.lt
  have q2f0 := q2.free 0
  have q2f1 := q2.free 1
  go_wp2_with fail
  refine (C2.out _).mono ?_
  rintro e v ⟨rfl, rfl⟩
  go_wp2_with fail
  refine (C3.out _).mono ?_
  rintro e v ⟨rfl, rfl⟩
  go_wp2_with fail
  refine ret_cell_tmp [.int .u64 k, .float .f64 c] Try.results72 rfl (Try.isAgg66 _) (Try.sizeOf66 _) (t := 66) ?_ rfl ?_; next => (exact (by repeat' (first | with_reducible assumption | (show (_ : List Value) = _; rfl) | with_reducible exact Blk.new _ _ rfl | (with_reducible refine Blk.new _ _ ?_; simp; done) | with_reducible apply Blk.set_eq | with_reducible apply Blk.other | with_reducible apply Blk.alloc | with_reducible apply Blk.drew | (simp; done) | (simp; omega))))
  exact ⟨rfl, (by repeat' (first | with_reducible exact Below.refl _ _ | with_reducible assumption | with_reducible refine bel_drew ?_ | with_reducible refine bel_alloc ?_ _ | with_reducible refine bel_set ?_ ?_ _ | with_reducible refine bel_call ?_ (by assumption) | (dsimp only; omega) | (simp; done) | (simp; omega)))⟩
set_option maxRecDepth 100000 in
set_option maxHeartbeats 1000000 in
theorem rone2_drop (n : Int) (y : Nat) (k : Int) (x : Nat) (w : World) (ho : Stp.ok ⟨2, n, y⟩) (hr : Rc.ok ⟨k, x⟩) (hf' : flt y (canon x) = false) :
    Calls Try.prog 72 #[.agg #[.int .i64 2, .int .i64 n, .float .f64 y], .agg #[.int .u64 k, .float .f64 x]] w fun e w' => e = .returned (.tuple #[.agg #[.int .u64 (one ⟨2, n, y⟩ ⟨k, x⟩).1.key, .float .f64 (one ⟨2, n, y⟩ ⟨k, x⟩).1.val], .int .i64 (one ⟨2, n, y⟩ ⟨k, x⟩).2]) ∧ Below w.heap.size w w' := by
  obtain ⟨_, _, hn1, hn2, hy⟩ := ho
  obtain ⟨hk0, hk1, hx⟩ := hr
  dsimp only at *
  have c1 := fun w => rstep_any ⟨2, n, y⟩ w
  dsimp only at c1
  have C2 := Lib.hid (fun w => rcanon_any x w hx)
  have hc := Fl.canon_lt hx
  have hcc := Fl.canon_canon x
  have hs : isStp ⟨2, n, y⟩ = true := by unfold isStp; dsimp only; rw [if_neg (show ¬ (2 : Int) = 7 by decide), if_neg (show ¬ (2 : Int) = 11 by decide)]; rfl
  rw [hs] at c1
  have C1 := Lib.hid c1
  clear c1
  have hf : fate ⟨2, n, y⟩ (canon x) = 2 := by
    unfold fate
    dsimp only
    rw [if_neg (show ¬ (2 : Int) = 1 by decide), if_pos rfl, if_neg (by rw [hf']; decide)]
  rw [one_else (r := ⟨k, x⟩) hs hf (by decide)]
  dsimp only
  have g1 := gtr_flt 64 hc hy
  rw [hf'] at g1
  clear hf hf' hs
  clear hc hcc hx hy hn1 hn2
  generalize canon x = c at *
  go_enter Try.func72, Try.ntmps72
  go_wp2_with fail
  refine (C1.out _).mono ?_
  rintro e w1 ⟨rfl, hb⟩
  have q0 : Blk w1 w.heap.size [.int .i64 2, .int .i64 n, .float .f64 y] 73 := Blk.below (by repeat' (first | with_reducible assumption | (show (_ : List Value) = _; rfl) | with_reducible exact Blk.new _ _ rfl | (with_reducible refine Blk.new _ _ ?_; simp; done) | with_reducible apply Blk.set_eq | with_reducible apply Blk.other | with_reducible apply Blk.alloc | with_reducible apply Blk.drew | (simp; done) | (simp; omega))) hb
  have q1 : Blk w1 (w.heap.size + 1) [.int .u64 k, .float .f64 x] 66 := Blk.below (by repeat' (first | with_reducible assumption | (show (_ : List Value) = _; rfl) | with_reducible exact Blk.new _ _ rfl | (with_reducible refine Blk.new _ _ ?_; simp; done) | with_reducible apply Blk.set_eq | with_reducible apply Blk.other | with_reducible apply Blk.alloc | with_reducible apply Blk.drew | (simp; done) | (simp; omega))) hb
  have q2 : Blk w1 (w.heap.size + 1 + 1) [.int .u64 0, .float .f64 0] 66 := Blk.below (by repeat' (first | with_reducible assumption | (show (_ : List Value) = _; rfl) | with_reducible exact Blk.new _ _ rfl | (with_reducible refine Blk.new _ _ ?_; simp; done) | with_reducible apply Blk.set_eq | with_reducible apply Blk.other | with_reducible apply Blk.alloc | with_reducible apply Blk.drew | (simp; done) | (simp; omega))) hb
  have p1 : Below w.heap.size w w1 := (by repeat' (first | with_reducible exact Below.refl _ _ | with_reducible assumption | with_reducible refine bel_drew ?_ | with_reducible refine bel_alloc ?_ _ | with_reducible refine bel_set ?_ ?_ _ | with_reducible refine bel_call ?_ (by assumption) | (dsimp only; omega) | (simp; done) | (simp; omega)))
  clear hb
  have q0c0 : w1.cell? ⟨w.heap.size, 0, none⟩ = some (.int .i64 2) := q0.cell 0; have q0c1 : w1.cell? ⟨w.heap.size, 1, none⟩ = some (.int .i64 n) := q0.cell 1; have q0c2 : w1.cell? ⟨w.heap.size, 2, none⟩ = some (.float .f64 y) := q0.cell 2; have q0z := q0.lt
  have q1c0 : w1.cell? ⟨(w.heap.size + 1), 0, none⟩ = some (.int .u64 k) := q1.cell 0; have q1c1 : w1.cell? ⟨(w.heap.size + 1), 1, none⟩ = some (.float .f64 x) := q1.cell 1; have q1z := q1.lt
  have q2c0 : w1.cell? ⟨(w.heap.size + 1 + 1), 0, none⟩ = some (.int .u64 0) := q2.cell 0; have q2c1 : w1.cell? ⟨(w.heap.size + 1 + 1), 1, none⟩ = some (.float .f64 0) := q2.cell 1; have q2z := q2.lt
  have q2f0 := q2.free 0
  have q2f1 := q2.free 1
  go_wp2_with fail
  refine (C2.out _).mono ?_
  rintro e v ⟨rfl, rfl⟩
  go_wp2_with fail
  refine ret_cell_tmp [.int .u64 0, .float .f64 0] Try.results72 rfl (Try.isAgg66 _) (Try.sizeOf66 _) (t := 66) ?_ rfl ?_; next => (exact (by repeat' (first | with_reducible assumption | (show (_ : List Value) = _; rfl) | with_reducible exact Blk.new _ _ rfl | (with_reducible refine Blk.new _ _ ?_; simp; done) | with_reducible apply Blk.set_eq | with_reducible apply Blk.other | with_reducible apply Blk.alloc | with_reducible apply Blk.drew | (simp; done) | (simp; omega))))
  exact ⟨rfl, (by repeat' (first | with_reducible exact Below.refl _ _ | with_reducible assumption | with_reducible refine bel_drew ?_ | with_reducible refine bel_alloc ?_ _ | with_reducible refine bel_set ?_ ?_ _ | with_reducible refine bel_call ?_ (by assumption) | (dsimp only; omega) | (simp; done) | (simp; omega)))⟩
set_option maxRecDepth 100000 in
set_option maxHeartbeats 1000000 in
theorem rone3_keep (n : Int) (y : Nat) (k : Int) (x : Nat) (w : World) (ho : Stp.ok ⟨3, n, y⟩) (hr : Rc.ok ⟨k, x⟩) (hf' : nan (canon x) = false) :
    Calls Try.prog 72 #[.agg #[.int .i64 3, .int .i64 n, .float .f64 y], .agg #[.int .u64 k, .float .f64 x]] w fun e w' => e = .returned (.tuple #[.agg #[.int .u64 (one ⟨3, n, y⟩ ⟨k, x⟩).1.key, .float .f64 (one ⟨3, n, y⟩ ⟨k, x⟩).1.val], .int .i64 (one ⟨3, n, y⟩ ⟨k, x⟩).2]) ∧ Below w.heap.size w w' := by
  obtain ⟨_, _, hn1, hn2, hy⟩ := ho
  obtain ⟨hk0, hk1, hx⟩ := hr
  dsimp only at *
  have c1 := fun w => rstep_any ⟨3, n, y⟩ w
  dsimp only at c1
  have C2 := Lib.hid (fun w => rcanon_any x w hx)
  have hc := Fl.canon_lt hx
  have hcc := Fl.canon_canon x
  have hs : isStp ⟨3, n, y⟩ = true := by unfold isStp; dsimp only; rw [if_neg (show ¬ (3 : Int) = 7 by decide), if_neg (show ¬ (3 : Int) = 11 by decide)]; rfl
  rw [hs] at c1
  have C1 := Lib.hid c1
  clear c1
  have hf : fate ⟨3, n, y⟩ (canon x) = 1 := by
    unfold fate
    dsimp only
    rw [if_neg (show ¬ (3 : Int) = 1 by decide), if_neg (show ¬ (3 : Int) = 2 by decide), if_pos rfl, if_neg (by rw [hf']; decide)]
  have hnk : nkey ⟨3, n, y⟩ k (canon x) = k := by unfold nkey; dsimp only; rw [if_neg (show ¬ (3 : Int) = 11 by decide), if_neg (show ¬ (3 : Int) = 12 by decide)]
  have hnv : nval ⟨3, n, y⟩ (canon x) = canon x := by unfold nval; dsimp only; rw [if_neg (show ¬ (3 : Int) = 4 by decide), if_neg (show ¬ (3 : Int) = 5 by decide), if_neg (show ¬ (3 : Int) = 6 by decide), if_neg (show ¬ (3 : Int) = 7 by decide), if_neg (show ¬ (3 : Int) = 8 by decide), if_neg (show ¬ (3 : Int) = 10 by decide)]
  rw [one_yes (r := ⟨k, x⟩) hs hf, hnk, hnv]
  dsimp only
  have g1 := neq_self 64 hc
  rw [hf'] at g1
  have C3 := Lib.hid (fun w => rcanon_any (canon x) w hc)
  rw [hcc] at C3
  clear hf hf' hs hnk hnv
  clear hc hcc hx hy hn1 hn2
  generalize canon x = c at *
  go_enter Try.func72, Try.ntmps72
  go_wp2_with fail
  refine (C1.out _).mono ?_
  rintro e w1 ⟨rfl, hb⟩
  have q0 : Blk w1 w.heap.size [.int .i64 3, .int .i64 n, .float .f64 y] 73 := Blk.below (by repeat' (first | with_reducible assumption | (show (_ : List Value) = _; rfl) | with_reducible exact Blk.new _ _ rfl | (with_reducible refine Blk.new _ _ ?_; simp; done) | with_reducible apply Blk.set_eq | with_reducible apply Blk.other | with_reducible apply Blk.alloc | with_reducible apply Blk.drew | (simp; done) | (simp; omega))) hb
  have q1 : Blk w1 (w.heap.size + 1) [.int .u64 k, .float .f64 x] 66 := Blk.below (by repeat' (first | with_reducible assumption | (show (_ : List Value) = _; rfl) | with_reducible exact Blk.new _ _ rfl | (with_reducible refine Blk.new _ _ ?_; simp; done) | with_reducible apply Blk.set_eq | with_reducible apply Blk.other | with_reducible apply Blk.alloc | with_reducible apply Blk.drew | (simp; done) | (simp; omega))) hb
  have q2 : Blk w1 (w.heap.size + 1 + 1) [.int .u64 0, .float .f64 0] 66 := Blk.below (by repeat' (first | with_reducible assumption | (show (_ : List Value) = _; rfl) | with_reducible exact Blk.new _ _ rfl | (with_reducible refine Blk.new _ _ ?_; simp; done) | with_reducible apply Blk.set_eq | with_reducible apply Blk.other | with_reducible apply Blk.alloc | with_reducible apply Blk.drew | (simp; done) | (simp; omega))) hb
  have p1 : Below w.heap.size w w1 := (by repeat' (first | with_reducible exact Below.refl _ _ | with_reducible assumption | with_reducible refine bel_drew ?_ | with_reducible refine bel_alloc ?_ _ | with_reducible refine bel_set ?_ ?_ _ | with_reducible refine bel_call ?_ (by assumption) | (dsimp only; omega) | (simp; done) | (simp; omega)))
  clear hb
  have q0c0 : w1.cell? ⟨w.heap.size, 0, none⟩ = some (.int .i64 3) := q0.cell 0; have q0c1 : w1.cell? ⟨w.heap.size, 1, none⟩ = some (.int .i64 n) := q0.cell 1; have q0c2 : w1.cell? ⟨w.heap.size, 2, none⟩ = some (.float .f64 y) := q0.cell 2; have q0z := q0.lt
  have q1c0 : w1.cell? ⟨(w.heap.size + 1), 0, none⟩ = some (.int .u64 k) := q1.cell 0; have q1c1 : w1.cell? ⟨(w.heap.size + 1), 1, none⟩ = some (.float .f64 x) := q1.cell 1; have q1z := q1.lt
  have q2c0 : w1.cell? ⟨(w.heap.size + 1 + 1), 0, none⟩ = some (.int .u64 0) := q2.cell 0; have q2c1 : w1.cell? ⟨(w.heap.size + 1 + 1), 1, none⟩ = some (.float .f64 0) := q2.cell 1; have q2z := q2.lt
  have q2f0 := q2.free 0
  have q2f1 := q2.free 1
  go_wp2_with fail
  refine (C2.out _).mono ?_
  rintro e v ⟨rfl, rfl⟩
  go_wp2_with fail
  refine (C3.out _).mono ?_
  rintro e v ⟨rfl, rfl⟩
  go_wp2_with fail
  refine ret_cell_tmp [.int .u64 k, .float .f64 c] Try.results72 rfl (Try.isAgg66 _) (Try.sizeOf66 _) (t := 66) ?_ rfl ?_; next => (exact (by repeat' (first | with_reducible assumption | (show (_ : List Value) = _; rfl) | with_reducible exact Blk.new _ _ rfl | (with_reducible refine Blk.new _ _ ?_; simp; done) | with_reducible apply Blk.set_eq | with_reducible apply Blk.other | with_reducible apply Blk.alloc | with_reducible apply Blk.drew | (simp; done) | (simp; omega))))
  exact ⟨rfl, (by repeat' (first | with_reducible exact Below.refl _ _ | with_reducible assumption | with_reducible refine bel_drew ?_ | with_reducible refine bel_alloc ?_ _ | with_reducible refine bel_set ?_ ?_ _ | with_reducible refine bel_call ?_ (by assumption) | (dsimp only; omega) | (simp; done) | (simp; omega)))⟩
set_option maxRecDepth 100000 in
set_option maxHeartbeats 1000000 in
theorem rone3_drop (n : Int) (y : Nat) (k : Int) (x : Nat) (w : World) (ho : Stp.ok ⟨3, n, y⟩) (hr : Rc.ok ⟨k, x⟩) (hf' : nan (canon x) = true) :
    Calls Try.prog 72 #[.agg #[.int .i64 3, .int .i64 n, .float .f64 y], .agg #[.int .u64 k, .float .f64 x]] w fun e w' => e = .returned (.tuple #[.agg #[.int .u64 (one ⟨3, n, y⟩ ⟨k, x⟩).1.key, .float .f64 (one ⟨3, n, y⟩ ⟨k, x⟩).1.val], .int .i64 (one ⟨3, n, y⟩ ⟨k, x⟩).2]) ∧ Below w.heap.size w w' := by
  obtain ⟨_, _, hn1, hn2, hy⟩ := ho
  obtain ⟨hk0, hk1, hx⟩ := hr
  dsimp only at *
  have c1 := fun w => rstep_any ⟨3, n, y⟩ w
  dsimp only at c1
  have C2 := Lib.hid (fun w => rcanon_any x w hx)
  have hc := Fl.canon_lt hx
  have hcc := Fl.canon_canon x
  have hs : isStp ⟨3, n, y⟩ = true := by unfold isStp; dsimp only; rw [if_neg (show ¬ (3 : Int) = 7 by decide), if_neg (show ¬ (3 : Int) = 11 by decide)]; rfl
  rw [hs] at c1
  have C1 := Lib.hid c1
  clear c1
  have hf : fate ⟨3, n, y⟩ (canon x) = 2 := by
    unfold fate
    dsimp only
    rw [if_neg (show ¬ (3 : Int) = 1 by decide), if_neg (show ¬ (3 : Int) = 2 by decide), if_pos rfl, if_pos hf']
  rw [one_else (r := ⟨k, x⟩) hs hf (by decide)]
  dsimp only
  have g1 := neq_self 64 hc
  rw [hf'] at g1
  clear hf hf' hs
  clear hc hcc hx hy hn1 hn2
  generalize canon x = c at *
  go_enter Try.func72, Try.ntmps72
  go_wp2_with fail
  refine (C1.out _).mono ?_
  rintro e w1 ⟨rfl, hb⟩
  have q0 : Blk w1 w.heap.size [.int .i64 3, .int .i64 n, .float .f64 y] 73 := Blk.below (by repeat' (first | with_reducible assumption | (show (_ : List Value) = _; rfl) | with_reducible exact Blk.new _ _ rfl | (with_reducible refine Blk.new _ _ ?_; simp; done) | with_reducible apply Blk.set_eq | with_reducible apply Blk.other | with_reducible apply Blk.alloc | with_reducible apply Blk.drew | (simp; done) | (simp; omega))) hb
  have q1 : Blk w1 (w.heap.size + 1) [.int .u64 k, .float .f64 x] 66 := Blk.below (by repeat' (first | with_reducible assumption | (show (_ : List Value) = _; rfl) | with_reducible exact Blk.new _ _ rfl | (with_reducible refine Blk.new _ _ ?_; simp; done) | with_reducible apply Blk.set_eq | with_reducible apply Blk.other | with_reducible apply Blk.alloc | with_reducible apply Blk.drew | (simp; done) | (simp; omega))) hb
  have q2 : Blk w1 (w.heap.size + 1 + 1) [.int .u64 0, .float .f64 0] 66 := Blk.below (by repeat' (first | with_reducible assumption | (show (_ : List Value) = _; rfl) | with_reducible exact Blk.new _ _ rfl | (with_reducible refine Blk.new _ _ ?_; simp; done) | with_reducible apply Blk.set_eq | with_reducible apply Blk.other | with_reducible apply Blk.alloc | with_reducible apply Blk.drew | (simp; done) | (simp; omega))) hb
  have p1 : Below w.heap.size w w1 := (by repeat' (first | with_reducible exact Below.refl _ _ | with_reducible assumption | with_reducible refine bel_drew ?_ | with_reducible refine bel_alloc ?_ _ | with_reducible refine bel_set ?_ ?_ _ | with_reducible refine bel_call ?_ (by assumption) | (dsimp only; omega) | (simp; done) | (simp; omega)))
  clear hb
  have q0c0 : w1.cell? ⟨w.heap.size, 0, none⟩ = some (.int .i64 3) := q0.cell 0; have q0c1 : w1.cell? ⟨w.heap.size, 1, none⟩ = some (.int .i64 n) := q0.cell 1; have q0c2 : w1.cell? ⟨w.heap.size, 2, none⟩ = some (.float .f64 y) := q0.cell 2; have q0z := q0.lt
  have q1c0 : w1.cell? ⟨(w.heap.size + 1), 0, none⟩ = some (.int .u64 k) := q1.cell 0; have q1c1 : w1.cell? ⟨(w.heap.size + 1), 1, none⟩ = some (.float .f64 x) := q1.cell 1; have q1z := q1.lt
  have q2c0 : w1.cell? ⟨(w.heap.size + 1 + 1), 0, none⟩ = some (.int .u64 0) := q2.cell 0; have q2c1 : w1.cell? ⟨(w.heap.size + 1 + 1), 1, none⟩ = some (.float .f64 0) := q2.cell 1; have q2z := q2.lt
  have q2f0 := q2.free 0
  have q2f1 := q2.free 1
  go_wp2_with fail
  refine (C2.out _).mono ?_
  rintro e v ⟨rfl, rfl⟩
  go_wp2_with fail
  refine ret_cell_tmp [.int .u64 0, .float .f64 0] Try.results72 rfl (Try.isAgg66 _) (Try.sizeOf66 _) (t := 66) ?_ rfl ?_; next => (exact (by repeat' (first | with_reducible assumption | (show (_ : List Value) = _; rfl) | with_reducible exact Blk.new _ _ rfl | (with_reducible refine Blk.new _ _ ?_; simp; done) | with_reducible apply Blk.set_eq | with_reducible apply Blk.other | with_reducible apply Blk.alloc | with_reducible apply Blk.drew | (simp; done) | (simp; omega))))
  exact ⟨rfl, (by repeat' (first | with_reducible exact Below.refl _ _ | with_reducible assumption | with_reducible refine bel_drew ?_ | with_reducible refine bel_alloc ?_ _ | with_reducible refine bel_set ?_ ?_ _ | with_reducible refine bel_call ?_ (by assumption) | (dsimp only; omega) | (simp; done) | (simp; omega)))⟩
set_option maxRecDepth 100000 in
set_option maxHeartbeats 1000000 in
theorem rone4 (n : Int) (y : Nat) (k : Int) (x : Nat) (w : World) (ho : Stp.ok ⟨4, n, y⟩) (hr : Rc.ok ⟨k, x⟩)  :
    Calls Try.prog 72 #[.agg #[.int .i64 4, .int .i64 n, .float .f64 y], .agg #[.int .u64 k, .float .f64 x]] w fun e w' => e = .returned (.tuple #[.agg #[.int .u64 (one ⟨4, n, y⟩ ⟨k, x⟩).1.key, .float .f64 (one ⟨4, n, y⟩ ⟨k, x⟩).1.val], .int .i64 (one ⟨4, n, y⟩ ⟨k, x⟩).2]) ∧ Below w.heap.size w w' := by
  obtain ⟨_, _, hn1, hn2, hy⟩ := ho
  obtain ⟨hk0, hk1, hx⟩ := hr
  dsimp only at *
  have c1 := fun w => rstep_any ⟨4, n, y⟩ w
  dsimp only at c1
  have C2 := Lib.hid (fun w => rcanon_any x w hx)
  have hc := Fl.canon_lt hx
  have hcc := Fl.canon_canon x
  have hs : isStp ⟨4, n, y⟩ = true := by unfold isStp; dsimp only; rw [if_neg (show ¬ (4 : Int) = 7 by decide), if_neg (show ¬ (4 : Int) = 11 by decide)]; rfl
  rw [hs] at c1
  have C1 := Lib.hid c1
  clear c1
  have hf : fate ⟨4, n, y⟩ (canon x) = 1 := by
    unfold fate
    dsimp only
    rw [if_neg (show ¬ (4 : Int) = 1 by decide), if_neg (show ¬ (4 : Int) = 2 by decide), if_neg (show ¬ (4 : Int) = 3 by decide), if_neg (show ¬ (4 : Int) = 9 by decide), if_neg (show ¬ (4 : Int) = 10 by decide)]
  have hnk : nkey ⟨4, n, y⟩ k (canon x) = k := by unfold nkey; dsimp only; rw [if_neg (show ¬ (4 : Int) = 11 by decide), if_neg (show ¬ (4 : Int) = 12 by decide)]
  have hnv : nval ⟨4, n, y⟩ (canon x) = canon (Fl.flip (canon x)) := by unfold nval; dsimp only; rw [if_pos rfl]
  rw [one_yes (r := ⟨k, x⟩) hs hf, hnk, hnv]
  dsimp only
  have C4 := Lib.hid (fun w => turned_any (canon x) w hc)
  have C3 := Lib.hid (fun w => rcanon_any (Fl.flip (canon x)) w (Fl.flip_lt hc))
  clear hf hs hnk hnv
  clear hc hcc hx hy hn1 hn2
  generalize canon x = c at *
  go_enter Try.func72, Try.ntmps72
  go_wp2_with fail
  refine (C1.out _).mono ?_
  rintro e w1 ⟨rfl, hb⟩
  have q0 : Blk w1 w.heap.size [.int .i64 4, .int .i64 n, .float .f64 y] 73 := Blk.below (by repeat' (first | with_reducible assumption | (show (_ : List Value) = _; rfl) | with_reducible exact Blk.new _ _ rfl | (with_reducible refine Blk.new _ _ ?_; simp; done) | with_reducible apply Blk.set_eq | with_reducible apply Blk.other | with_reducible apply Blk.alloc | with_reducible apply Blk.drew | (simp; done) | (simp; omega))) hb
  have q1 : Blk w1 (w.heap.size + 1) [.int .u64 k, .float .f64 x] 66 := Blk.below (by repeat' (first | with_reducible assumption | (show (_ : List Value) = _; rfl) | with_reducible exact Blk.new _ _ rfl | (with_reducible refine Blk.new _ _ ?_; simp; done) | with_reducible apply Blk.set_eq | with_reducible apply Blk.other | with_reducible apply Blk.alloc | with_reducible apply Blk.drew | (simp; done) | (simp; omega))) hb
  have q2 : Blk w1 (w.heap.size + 1 + 1) [.int .u64 0, .float .f64 0] 66 := Blk.below (by repeat' (first | with_reducible assumption | (show (_ : List Value) = _; rfl) | with_reducible exact Blk.new _ _ rfl | (with_reducible refine Blk.new _ _ ?_; simp; done) | with_reducible apply Blk.set_eq | with_reducible apply Blk.other | with_reducible apply Blk.alloc | with_reducible apply Blk.drew | (simp; done) | (simp; omega))) hb
  have p1 : Below w.heap.size w w1 := (by repeat' (first | with_reducible exact Below.refl _ _ | with_reducible assumption | with_reducible refine bel_drew ?_ | with_reducible refine bel_alloc ?_ _ | with_reducible refine bel_set ?_ ?_ _ | with_reducible refine bel_call ?_ (by assumption) | (dsimp only; omega) | (simp; done) | (simp; omega)))
  clear hb
  have q0c0 : w1.cell? ⟨w.heap.size, 0, none⟩ = some (.int .i64 4) := q0.cell 0; have q0c1 : w1.cell? ⟨w.heap.size, 1, none⟩ = some (.int .i64 n) := q0.cell 1; have q0c2 : w1.cell? ⟨w.heap.size, 2, none⟩ = some (.float .f64 y) := q0.cell 2; have q0z := q0.lt
  have q1c0 : w1.cell? ⟨(w.heap.size + 1), 0, none⟩ = some (.int .u64 k) := q1.cell 0; have q1c1 : w1.cell? ⟨(w.heap.size + 1), 1, none⟩ = some (.float .f64 x) := q1.cell 1; have q1z := q1.lt
  have q2c0 : w1.cell? ⟨(w.heap.size + 1 + 1), 0, none⟩ = some (.int .u64 0) := q2.cell 0; have q2c1 : w1.cell? ⟨(w.heap.size + 1 + 1), 1, none⟩ = some (.float .f64 0) := q2.cell 1; have q2z := q2.lt
  have q2f0 := q2.free 0
  have q2f1 := q2.free 1
  go_wp2_with fail
  refine (C2.out _).mono ?_
  rintro e v ⟨rfl, rfl⟩
  go_wp2_with fail
  refine (C4.out _).mono ?_
  rintro e v ⟨rfl, rfl⟩
  go_wp2_with fail
  refine (C3.out _).mono ?_
  rintro e v ⟨rfl, rfl⟩
  go_wp2_with fail
  refine ret_cell_tmp [.int .u64 k, .float .f64 (canon (Fl.flip c))] Try.results72 rfl (Try.isAgg66 _) (Try.sizeOf66 _) (t := 66) ?_ rfl ?_; next => (exact (by repeat' (first | with_reducible assumption | (show (_ : List Value) = _; rfl) | with_reducible exact Blk.new _ _ rfl | (with_reducible refine Blk.new _ _ ?_; simp; done) | with_reducible apply Blk.set_eq | with_reducible apply Blk.other | with_reducible apply Blk.alloc | with_reducible apply Blk.drew | (simp; done) | (simp; omega))))
  exact ⟨rfl, (by repeat' (first | with_reducible exact Below.refl _ _ | with_reducible assumption | with_reducible refine bel_drew ?_ | with_reducible refine bel_alloc ?_ _ | with_reducible refine bel_set ?_ ?_ _ | with_reducible refine bel_call ?_ (by assumption) | (dsimp only; omega) | (simp; done) | (simp; omega)))⟩
set_option maxRecDepth 100000 in
set_option maxHeartbeats 1000000 in
theorem rone5 (n : Int) (y : Nat) (k : Int) (x : Nat) (w : World) (ho : Stp.ok ⟨5, n, y⟩) (hr : Rc.ok ⟨k, x⟩)  :
    Calls Try.prog 72 #[.agg #[.int .i64 5, .int .i64 n, .float .f64 y], .agg #[.int .u64 k, .float .f64 x]] w fun e w' => e = .returned (.tuple #[.agg #[.int .u64 (one ⟨5, n, y⟩ ⟨k, x⟩).1.key, .float .f64 (one ⟨5, n, y⟩ ⟨k, x⟩).1.val], .int .i64 (one ⟨5, n, y⟩ ⟨k, x⟩).2]) ∧ Below w.heap.size w w' := by
  obtain ⟨_, _, hn1, hn2, hy⟩ := ho
  obtain ⟨hk0, hk1, hx⟩ := hr
  dsimp only at *
  have c1 := fun w => rstep_any ⟨5, n, y⟩ w
  dsimp only at c1
  have C2 := Lib.hid (fun w => rcanon_any x w hx)
  have hc := Fl.canon_lt hx
  have hcc := Fl.canon_canon x
  have hs : isStp ⟨5, n, y⟩ = true := by unfold isStp; dsimp only; rw [if_neg (show ¬ (5 : Int) = 7 by decide), if_neg (show ¬ (5 : Int) = 11 by decide)]; rfl
  rw [hs] at c1
  have C1 := Lib.hid c1
  clear c1
  have hf : fate ⟨5, n, y⟩ (canon x) = 1 := by
    unfold fate
    dsimp only
    rw [if_neg (show ¬ (5 : Int) = 1 by decide), if_neg (show ¬ (5 : Int) = 2 by decide), if_neg (show ¬ (5 : Int) = 3 by decide), if_neg (show ¬ (5 : Int) = 9 by decide), if_neg (show ¬ (5 : Int) = 10 by decide)]
  have hnk : nkey ⟨5, n, y⟩ k (canon x) = k := by unfold nkey; dsimp only; rw [if_neg (show ¬ (5 : Int) = 11 by decide), if_neg (show ¬ (5 : Int) = 12 by decide)]
  have hnv : nval ⟨5, n, y⟩ (canon x) = canon (ab (canon x)) := by unfold nval; dsimp only; rw [if_neg (show ¬ (5 : Int) = 4 by decide), if_pos rfl]
  rw [one_yes (r := ⟨k, x⟩) hs hf, hnk, hnv]
  dsimp only
  have C4 := Lib.hid (fun w => sized_any (canon x) w hc)
  have C3 := Lib.hid (fun w => rcanon_any (ab (canon x)) w (ab_lt _))
  clear hf hs hnk hnv
  clear hc hcc hx hy hn1 hn2
  generalize canon x = c at *
  go_enter Try.func72, Try.ntmps72
  go_wp2_with fail
  refine (C1.out _).mono ?_
  rintro e w1 ⟨rfl, hb⟩
  have q0 : Blk w1 w.heap.size [.int .i64 5, .int .i64 n, .float .f64 y] 73 := Blk.below (by repeat' (first | with_reducible assumption | (show (_ : List Value) = _; rfl) | with_reducible exact Blk.new _ _ rfl | (with_reducible refine Blk.new _ _ ?_; simp; done) | with_reducible apply Blk.set_eq | with_reducible apply Blk.other | with_reducible apply Blk.alloc | with_reducible apply Blk.drew | (simp; done) | (simp; omega))) hb
  have q1 : Blk w1 (w.heap.size + 1) [.int .u64 k, .float .f64 x] 66 := Blk.below (by repeat' (first | with_reducible assumption | (show (_ : List Value) = _; rfl) | with_reducible exact Blk.new _ _ rfl | (with_reducible refine Blk.new _ _ ?_; simp; done) | with_reducible apply Blk.set_eq | with_reducible apply Blk.other | with_reducible apply Blk.alloc | with_reducible apply Blk.drew | (simp; done) | (simp; omega))) hb
  have q2 : Blk w1 (w.heap.size + 1 + 1) [.int .u64 0, .float .f64 0] 66 := Blk.below (by repeat' (first | with_reducible assumption | (show (_ : List Value) = _; rfl) | with_reducible exact Blk.new _ _ rfl | (with_reducible refine Blk.new _ _ ?_; simp; done) | with_reducible apply Blk.set_eq | with_reducible apply Blk.other | with_reducible apply Blk.alloc | with_reducible apply Blk.drew | (simp; done) | (simp; omega))) hb
  have p1 : Below w.heap.size w w1 := (by repeat' (first | with_reducible exact Below.refl _ _ | with_reducible assumption | with_reducible refine bel_drew ?_ | with_reducible refine bel_alloc ?_ _ | with_reducible refine bel_set ?_ ?_ _ | with_reducible refine bel_call ?_ (by assumption) | (dsimp only; omega) | (simp; done) | (simp; omega)))
  clear hb
  have q0c0 : w1.cell? ⟨w.heap.size, 0, none⟩ = some (.int .i64 5) := q0.cell 0; have q0c1 : w1.cell? ⟨w.heap.size, 1, none⟩ = some (.int .i64 n) := q0.cell 1; have q0c2 : w1.cell? ⟨w.heap.size, 2, none⟩ = some (.float .f64 y) := q0.cell 2; have q0z := q0.lt
  have q1c0 : w1.cell? ⟨(w.heap.size + 1), 0, none⟩ = some (.int .u64 k) := q1.cell 0; have q1c1 : w1.cell? ⟨(w.heap.size + 1), 1, none⟩ = some (.float .f64 x) := q1.cell 1; have q1z := q1.lt
  have q2c0 : w1.cell? ⟨(w.heap.size + 1 + 1), 0, none⟩ = some (.int .u64 0) := q2.cell 0; have q2c1 : w1.cell? ⟨(w.heap.size + 1 + 1), 1, none⟩ = some (.float .f64 0) := q2.cell 1; have q2z := q2.lt
  have q2f0 := q2.free 0
  have q2f1 := q2.free 1
  go_wp2_with fail
  refine (C2.out _).mono ?_
  rintro e v ⟨rfl, rfl⟩
  go_wp2_with fail
  refine (C4.out _).mono ?_
  rintro e v ⟨rfl, rfl⟩
  go_wp2_with fail
  refine (C3.out _).mono ?_
  rintro e v ⟨rfl, rfl⟩
  go_wp2_with fail
  refine ret_cell_tmp [.int .u64 k, .float .f64 (canon (ab c))] Try.results72 rfl (Try.isAgg66 _) (Try.sizeOf66 _) (t := 66) ?_ rfl ?_; next => (exact (by repeat' (first | with_reducible assumption | (show (_ : List Value) = _; rfl) | with_reducible exact Blk.new _ _ rfl | (with_reducible refine Blk.new _ _ ?_; simp; done) | with_reducible apply Blk.set_eq | with_reducible apply Blk.other | with_reducible apply Blk.alloc | with_reducible apply Blk.drew | (simp; done) | (simp; omega))))
  exact ⟨rfl, (by repeat' (first | with_reducible exact Below.refl _ _ | with_reducible assumption | with_reducible refine bel_drew ?_ | with_reducible refine bel_alloc ?_ _ | with_reducible refine bel_set ?_ ?_ _ | with_reducible refine bel_call ?_ (by assumption) | (dsimp only; omega) | (simp; done) | (simp; omega)))⟩
set_option maxRecDepth 100000 in
set_option maxHeartbeats 1000000 in
theorem rone6 (n : Int) (y : Nat) (k : Int) (x : Nat) (w : World) (ho : Stp.ok ⟨6, n, y⟩) (hr : Rc.ok ⟨k, x⟩)  :
    Calls Try.prog 72 #[.agg #[.int .i64 6, .int .i64 n, .float .f64 y], .agg #[.int .u64 k, .float .f64 x]] w fun e w' => e = .returned (.tuple #[.agg #[.int .u64 (one ⟨6, n, y⟩ ⟨k, x⟩).1.key, .float .f64 (one ⟨6, n, y⟩ ⟨k, x⟩).1.val], .int .i64 (one ⟨6, n, y⟩ ⟨k, x⟩).2]) ∧ Below w.heap.size w w' := by
  obtain ⟨_, _, hn1, hn2, hy⟩ := ho
  obtain ⟨hk0, hk1, hx⟩ := hr
  dsimp only at *
  have c1 := fun w => rstep_any ⟨6, n, y⟩ w
  dsimp only at c1
  have C2 := Lib.hid (fun w => rcanon_any x w hx)
  have hc := Fl.canon_lt hx
  have hcc := Fl.canon_canon x
  have hs : isStp ⟨6, n, y⟩ = true := by unfold isStp; dsimp only; rw [if_neg (show ¬ (6 : Int) = 7 by decide), if_neg (show ¬ (6 : Int) = 11 by decide)]; rfl
  rw [hs] at c1
  have C1 := Lib.hid c1
  clear c1
  have hf : fate ⟨6, n, y⟩ (canon x) = 1 := by
    unfold fate
    dsimp only
    rw [if_neg (show ¬ (6 : Int) = 1 by decide), if_neg (show ¬ (6 : Int) = 2 by decide), if_neg (show ¬ (6 : Int) = 3 by decide), if_neg (show ¬ (6 : Int) = 9 by decide), if_neg (show ¬ (6 : Int) = 10 by decide)]
  have hnk : nkey ⟨6, n, y⟩ k (canon x) = k := by unfold nkey; dsimp only; rw [if_neg (show ¬ (6 : Int) = 11 by decide), if_neg (show ¬ (6 : Int) = 12 by decide)]
  have hnv : nval ⟨6, n, y⟩ (canon x) = floor (canon x) := by unfold nval; dsimp only; rw [if_neg (show ¬ (6 : Int) = 4 by decide), if_neg (show ¬ (6 : Int) = 5 by decide), if_pos rfl]
  rw [one_yes (r := ⟨k, x⟩) hs hf, hnk, hnv]
  dsimp only
  have C4 := Lib.hid (fun w => rfloor_any (canon x) w hc)
  have C3 := Lib.hid (fun w => rcanon_any (floor (canon x)) w (floor_lt))
  rw [floor_canon] at C3
  clear hf hs hnk hnv
  clear hc hcc hx hy hn1 hn2
  generalize canon x = c at *
  go_enter Try.func72, Try.ntmps72
  go_wp2_with fail
  refine (C1.out _).mono ?_
  rintro e w1 ⟨rfl, hb⟩
  have q0 : Blk w1 w.heap.size [.int .i64 6, .int .i64 n, .float .f64 y] 73 := Blk.below (by repeat' (first | with_reducible assumption | (show (_ : List Value) = _; rfl) | with_reducible exact Blk.new _ _ rfl | (with_reducible refine Blk.new _ _ ?_; simp; done) | with_reducible apply Blk.set_eq | with_reducible apply Blk.other | with_reducible apply Blk.alloc | with_reducible apply Blk.drew | (simp; done) | (simp; omega))) hb
  have q1 : Blk w1 (w.heap.size + 1) [.int .u64 k, .float .f64 x] 66 := Blk.below (by repeat' (first | with_reducible assumption | (show (_ : List Value) = _; rfl) | with_reducible exact Blk.new _ _ rfl | (with_reducible refine Blk.new _ _ ?_; simp; done) | with_reducible apply Blk.set_eq | with_reducible apply Blk.other | with_reducible apply Blk.alloc | with_reducible apply Blk.drew | (simp; done) | (simp; omega))) hb
  have q2 : Blk w1 (w.heap.size + 1 + 1) [.int .u64 0, .float .f64 0] 66 := Blk.below (by repeat' (first | with_reducible assumption | (show (_ : List Value) = _; rfl) | with_reducible exact Blk.new _ _ rfl | (with_reducible refine Blk.new _ _ ?_; simp; done) | with_reducible apply Blk.set_eq | with_reducible apply Blk.other | with_reducible apply Blk.alloc | with_reducible apply Blk.drew | (simp; done) | (simp; omega))) hb
  have p1 : Below w.heap.size w w1 := (by repeat' (first | with_reducible exact Below.refl _ _ | with_reducible assumption | with_reducible refine bel_drew ?_ | with_reducible refine bel_alloc ?_ _ | with_reducible refine bel_set ?_ ?_ _ | with_reducible refine bel_call ?_ (by assumption) | (dsimp only; omega) | (simp; done) | (simp; omega)))
  clear hb
  have q0c0 : w1.cell? ⟨w.heap.size, 0, none⟩ = some (.int .i64 6) := q0.cell 0; have q0c1 : w1.cell? ⟨w.heap.size, 1, none⟩ = some (.int .i64 n) := q0.cell 1; have q0c2 : w1.cell? ⟨w.heap.size, 2, none⟩ = some (.float .f64 y) := q0.cell 2; have q0z := q0.lt
  have q1c0 : w1.cell? ⟨(w.heap.size + 1), 0, none⟩ = some (.int .u64 k) := q1.cell 0; have q1c1 : w1.cell? ⟨(w.heap.size + 1), 1, none⟩ = some (.float .f64 x) := q1.cell 1; have q1z := q1.lt
  have q2c0 : w1.cell? ⟨(w.heap.size + 1 + 1), 0, none⟩ = some (.int .u64 0) := q2.cell 0; have q2c1 : w1.cell? ⟨(w.heap.size + 1 + 1), 1, none⟩ = some (.float .f64 0) := q2.cell 1; have q2z := q2.lt
  have q2f0 := q2.free 0
  have q2f1 := q2.free 1
  go_wp2_with fail
  refine (C2.out _).mono ?_
  rintro e v ⟨rfl, rfl⟩
  go_wp2_with fail
  refine (C4.out _).mono ?_
  rintro e v ⟨rfl, rfl⟩
  go_wp2_with fail
  refine (C3.out _).mono ?_
  rintro e v ⟨rfl, rfl⟩
  go_wp2_with fail
  refine ret_cell_tmp [.int .u64 k, .float .f64 (floor c)] Try.results72 rfl (Try.isAgg66 _) (Try.sizeOf66 _) (t := 66) ?_ rfl ?_; next => (exact (by repeat' (first | with_reducible assumption | (show (_ : List Value) = _; rfl) | with_reducible exact Blk.new _ _ rfl | (with_reducible refine Blk.new _ _ ?_; simp; done) | with_reducible apply Blk.set_eq | with_reducible apply Blk.other | with_reducible apply Blk.alloc | with_reducible apply Blk.drew | (simp; done) | (simp; omega))))
  exact ⟨rfl, (by repeat' (first | with_reducible exact Below.refl _ _ | with_reducible assumption | with_reducible refine bel_drew ?_ | with_reducible refine bel_alloc ?_ _ | with_reducible refine bel_set ?_ ?_ _ | with_reducible refine bel_call ?_ (by assumption) | (dsimp only; omega) | (simp; done) | (simp; omega)))⟩
set_option maxRecDepth 100000 in
set_option maxHeartbeats 1000000 in
theorem rone7 (n : Int) (y : Nat) (k : Int) (x : Nat) (w : World) (ho : Stp.ok ⟨7, n, y⟩) (hr : Rc.ok ⟨k, x⟩) (hs : isStp ⟨7, n, y⟩ = true) :
    Calls Try.prog 72 #[.agg #[.int .i64 7, .int .i64 n, .float .f64 y], .agg #[.int .u64 k, .float .f64 x]] w fun e w' => e = .returned (.tuple #[.agg #[.int .u64 (one ⟨7, n, y⟩ ⟨k, x⟩).1.key, .float .f64 (one ⟨7, n, y⟩ ⟨k, x⟩).1.val], .int .i64 (one ⟨7, n, y⟩ ⟨k, x⟩).2]) ∧ Below w.heap.size w w' := by
  obtain ⟨_, _, hn1, hn2, hy⟩ := ho
  obtain ⟨hk0, hk1, hx⟩ := hr
  dsimp only at *
  have c1 := fun w => rstep_any ⟨7, n, y⟩ w
  dsimp only at c1
  have C2 := Lib.hid (fun w => rcanon_any x w hx)
  have hc := Fl.canon_lt hx
  have hcc := Fl.canon_canon x
  rw [hs] at c1
  have C1 := Lib.hid c1
  clear c1
  have hf : fate ⟨7, n, y⟩ (canon x) = 1 := by
    unfold fate
    dsimp only
    rw [if_neg (show ¬ (7 : Int) = 1 by decide), if_neg (show ¬ (7 : Int) = 2 by decide), if_neg (show ¬ (7 : Int) = 3 by decide), if_neg (show ¬ (7 : Int) = 9 by decide), if_neg (show ¬ (7 : Int) = 10 by decide)]
  have hnk : nkey ⟨7, n, y⟩ k (canon x) = k := by unfold nkey; dsimp only; rw [if_neg (show ¬ (7 : Int) = 11 by decide), if_neg (show ¬ (7 : Int) = 12 by decide)]
  have hnv : nval ⟨7, n, y⟩ (canon x) = Fl.scl (canon x) n := by unfold nval; dsimp only; rw [if_neg (show ¬ (7 : Int) = 4 by decide), if_neg (show ¬ (7 : Int) = 5 by decide), if_neg (show ¬ (7 : Int) = 6 by decide), if_pos rfl]
  rw [one_yes (r := ⟨k, x⟩) hs hf, hnk, hnv]
  dsimp only
  have C4 := Lib.hid (fun w => rscale_any (canon x) n w hc)
  have C3 := Lib.hid (fun w => rcanon_any (Fl.scl (canon x) n) w (Fl.scl_lt hc n))
  rw [Fl.scl_canon] at C3
  clear hf hs hnk hnv
  clear hc hcc hx hy hn1 hn2
  generalize canon x = c at *
  go_enter Try.func72, Try.ntmps72
  go_wp2_with fail
  refine (C1.out _).mono ?_
  rintro e w1 ⟨rfl, hb⟩
  have q0 : Blk w1 w.heap.size [.int .i64 7, .int .i64 n, .float .f64 y] 73 := Blk.below (by repeat' (first | with_reducible assumption | (show (_ : List Value) = _; rfl) | with_reducible exact Blk.new _ _ rfl | (with_reducible refine Blk.new _ _ ?_; simp; done) | with_reducible apply Blk.set_eq | with_reducible apply Blk.other | with_reducible apply Blk.alloc | with_reducible apply Blk.drew | (simp; done) | (simp; omega))) hb
  have q1 : Blk w1 (w.heap.size + 1) [.int .u64 k, .float .f64 x] 66 := Blk.below (by repeat' (first | with_reducible assumption | (show (_ : List Value) = _; rfl) | with_reducible exact Blk.new _ _ rfl | (with_reducible refine Blk.new _ _ ?_; simp; done) | with_reducible apply Blk.set_eq | with_reducible apply Blk.other | with_reducible apply Blk.alloc | with_reducible apply Blk.drew | (simp; done) | (simp; omega))) hb
  have q2 : Blk w1 (w.heap.size + 1 + 1) [.int .u64 0, .float .f64 0] 66 := Blk.below (by repeat' (first | with_reducible assumption | (show (_ : List Value) = _; rfl) | with_reducible exact Blk.new _ _ rfl | (with_reducible refine Blk.new _ _ ?_; simp; done) | with_reducible apply Blk.set_eq | with_reducible apply Blk.other | with_reducible apply Blk.alloc | with_reducible apply Blk.drew | (simp; done) | (simp; omega))) hb
  have p1 : Below w.heap.size w w1 := (by repeat' (first | with_reducible exact Below.refl _ _ | with_reducible assumption | with_reducible refine bel_drew ?_ | with_reducible refine bel_alloc ?_ _ | with_reducible refine bel_set ?_ ?_ _ | with_reducible refine bel_call ?_ (by assumption) | (dsimp only; omega) | (simp; done) | (simp; omega)))
  clear hb
  have q0c0 : w1.cell? ⟨w.heap.size, 0, none⟩ = some (.int .i64 7) := q0.cell 0; have q0c1 : w1.cell? ⟨w.heap.size, 1, none⟩ = some (.int .i64 n) := q0.cell 1; have q0c2 : w1.cell? ⟨w.heap.size, 2, none⟩ = some (.float .f64 y) := q0.cell 2; have q0z := q0.lt
  have q1c0 : w1.cell? ⟨(w.heap.size + 1), 0, none⟩ = some (.int .u64 k) := q1.cell 0; have q1c1 : w1.cell? ⟨(w.heap.size + 1), 1, none⟩ = some (.float .f64 x) := q1.cell 1; have q1z := q1.lt
  have q2c0 : w1.cell? ⟨(w.heap.size + 1 + 1), 0, none⟩ = some (.int .u64 0) := q2.cell 0; have q2c1 : w1.cell? ⟨(w.heap.size + 1 + 1), 1, none⟩ = some (.float .f64 0) := q2.cell 1; have q2z := q2.lt
  have q2f0 := q2.free 0
  have q2f1 := q2.free 1
  go_wp2_with fail
  refine (C2.out _).mono ?_
  rintro e v ⟨rfl, rfl⟩
  go_wp2_with fail
  refine (C4.out _).mono ?_
  rintro e v ⟨rfl, rfl⟩
  go_wp2_with fail
  refine (C3.out _).mono ?_
  rintro e v ⟨rfl, rfl⟩
  go_wp2_with fail
  refine ret_cell_tmp [.int .u64 k, .float .f64 (Fl.scl c n)] Try.results72 rfl (Try.isAgg66 _) (Try.sizeOf66 _) (t := 66) ?_ rfl ?_; next => (exact (by repeat' (first | with_reducible assumption | (show (_ : List Value) = _; rfl) | with_reducible exact Blk.new _ _ rfl | (with_reducible refine Blk.new _ _ ?_; simp; done) | with_reducible apply Blk.set_eq | with_reducible apply Blk.other | with_reducible apply Blk.alloc | with_reducible apply Blk.drew | (simp; done) | (simp; omega))))
  exact ⟨rfl, (by repeat' (first | with_reducible exact Below.refl _ _ | with_reducible assumption | with_reducible refine bel_drew ?_ | with_reducible refine bel_alloc ?_ _ | with_reducible refine bel_set ?_ ?_ _ | with_reducible refine bel_call ?_ (by assumption) | (dsimp only; omega) | (simp; done) | (simp; omega)))⟩
set_option maxRecDepth 100000 in
set_option maxHeartbeats 1000000 in
theorem rone8 (n : Int) (y : Nat) (k : Int) (x : Nat) (w : World) (ho : Stp.ok ⟨8, n, y⟩) (hr : Rc.ok ⟨k, x⟩)  :
    Calls Try.prog 72 #[.agg #[.int .i64 8, .int .i64 n, .float .f64 y], .agg #[.int .u64 k, .float .f64 x]] w fun e w' => e = .returned (.tuple #[.agg #[.int .u64 (one ⟨8, n, y⟩ ⟨k, x⟩).1.key, .float .f64 (one ⟨8, n, y⟩ ⟨k, x⟩).1.val], .int .i64 (one ⟨8, n, y⟩ ⟨k, x⟩).2]) ∧ Below w.heap.size w w' := by
  obtain ⟨_, _, hn1, hn2, hy⟩ := ho
  obtain ⟨hk0, hk1, hx⟩ := hr
  dsimp only at *
  have c1 := fun w => rstep_any ⟨8, n, y⟩ w
  dsimp only at c1
  have C2 := Lib.hid (fun w => rcanon_any x w hx)
  have hc := Fl.canon_lt hx
  have hcc := Fl.canon_canon x
  have hs : isStp ⟨8, n, y⟩ = true := by unfold isStp; dsimp only; rw [if_neg (show ¬ (8 : Int) = 7 by decide), if_neg (show ¬ (8 : Int) = 11 by decide)]; rfl
  rw [hs] at c1
  have C1 := Lib.hid c1
  clear c1
  have hf : fate ⟨8, n, y⟩ (canon x) = 1 := by
    unfold fate
    dsimp only
    rw [if_neg (show ¬ (8 : Int) = 1 by decide), if_neg (show ¬ (8 : Int) = 2 by decide), if_neg (show ¬ (8 : Int) = 3 by decide), if_neg (show ¬ (8 : Int) = 9 by decide), if_neg (show ¬ (8 : Int) = 10 by decide)]
  have hnk : nkey ⟨8, n, y⟩ k (canon x) = k := by unfold nkey; dsimp only; rw [if_neg (show ¬ (8 : Int) = 11 by decide), if_neg (show ¬ (8 : Int) = 12 by decide)]
  have hnv : nval ⟨8, n, y⟩ (canon x) = inv (canon x) := by unfold nval; dsimp only; rw [if_neg (show ¬ (8 : Int) = 4 by decide), if_neg (show ¬ (8 : Int) = 5 by decide), if_neg (show ¬ (8 : Int) = 6 by decide), if_neg (show ¬ (8 : Int) = 7 by decide), if_pos rfl]
  rw [one_yes (r := ⟨k, x⟩) hs hf, hnk, hnv]
  dsimp only
  obtain ⟨nv, u, g1, g2⟩ := quo_one 64 (canon x)
  have C3w : Hid (∀ w0 w, Calls Try.prog 71 #[.float .f64 (nv w0)] w fun e w' => e = .returned (.float .f64 (inv (canon x))) ∧ w = w') := Lib.hid (fun w0 w => by have h := rcanon_any (nv w0) w (g2 w0).2.1; rw [(g2 w0).1] at h; exact h)
  have G2 := Lib.hid (fun w => (g2 w).2.2)
  clear hf hs hnk hnv g2
  clear hc hcc hx hy hn1 hn2
  generalize canon x = c at *
  go_enter Try.func72, Try.ntmps72
  go_wp2_with fail
  refine (C1.out _).mono ?_
  rintro e w1 ⟨rfl, hb⟩
  have q0 : Blk w1 w.heap.size [.int .i64 8, .int .i64 n, .float .f64 y] 73 := Blk.below (by repeat' (first | with_reducible assumption | (show (_ : List Value) = _; rfl) | with_reducible exact Blk.new _ _ rfl | (with_reducible refine Blk.new _ _ ?_; simp; done) | with_reducible apply Blk.set_eq | with_reducible apply Blk.other | with_reducible apply Blk.alloc | with_reducible apply Blk.drew | (simp; done) | (simp; omega))) hb
  have q1 : Blk w1 (w.heap.size + 1) [.int .u64 k, .float .f64 x] 66 := Blk.below (by repeat' (first | with_reducible assumption | (show (_ : List Value) = _; rfl) | with_reducible exact Blk.new _ _ rfl | (with_reducible refine Blk.new _ _ ?_; simp; done) | with_reducible apply Blk.set_eq | with_reducible apply Blk.other | with_reducible apply Blk.alloc | with_reducible apply Blk.drew | (simp; done) | (simp; omega))) hb
  have q2 : Blk w1 (w.heap.size + 1 + 1) [.int .u64 0, .float .f64 0] 66 := Blk.below (by repeat' (first | with_reducible assumption | (show (_ : List Value) = _; rfl) | with_reducible exact Blk.new _ _ rfl | (with_reducible refine Blk.new _ _ ?_; simp; done) | with_reducible apply Blk.set_eq | with_reducible apply Blk.other | with_reducible apply Blk.alloc | with_reducible apply Blk.drew | (simp; done) | (simp; omega))) hb
  have p1 : Below w.heap.size w w1 := (by repeat' (first | with_reducible exact Below.refl _ _ | with_reducible assumption | with_reducible refine bel_drew ?_ | with_reducible refine bel_alloc ?_ _ | with_reducible refine bel_set ?_ ?_ _ | with_reducible refine bel_call ?_ (by assumption) | (dsimp only; omega) | (simp; done) | (simp; omega)))
  clear hb
  have q0c0 : w1.cell? ⟨w.heap.size, 0, none⟩ = some (.int .i64 8) := q0.cell 0; have q0c1 : w1.cell? ⟨w.heap.size, 1, none⟩ = some (.int .i64 n) := q0.cell 1; have q0c2 : w1.cell? ⟨w.heap.size, 2, none⟩ = some (.float .f64 y) := q0.cell 2; have q0z := q0.lt
  have q1c0 : w1.cell? ⟨(w.heap.size + 1), 0, none⟩ = some (.int .u64 k) := q1.cell 0; have q1c1 : w1.cell? ⟨(w.heap.size + 1), 1, none⟩ = some (.float .f64 x) := q1.cell 1; have q1z := q1.lt
  have q2c0 : w1.cell? ⟨(w.heap.size + 1 + 1), 0, none⟩ = some (.int .u64 0) := q2.cell 0; have q2c1 : w1.cell? ⟨(w.heap.size + 1 + 1), 1, none⟩ = some (.float .f64 0) := q2.cell 1; have q2z := q2.lt
  have q2f0 := q2.free 0
  have q2f1 := q2.free 1
  go_wp2_with fail
  refine (C2.out _).mono ?_
  rintro e v ⟨rfl, rfl⟩
  go_wp2_with fail
  refine (C3w.out _ _).mono ?_
  rintro e v ⟨rfl, rfl⟩
  have hu := G2.out w1
  generalize u w1 = w2 at *
  have q3 : Blk w2 (w.heap.size + 1 + 1) [.int .u64 0, .float .f64 0] 66 := by
    rcases hu with h | h
    · rw [h]; exact q2
    · rw [h]; exact q2.drew
  have p2 : Below w.heap.size w w2 := by
    rcases hu with h | h
    · rw [h]; exact p1
    · rw [h]; exact bel_drew p1
  clear hu
  have q3c0 : w2.cell? ⟨(w.heap.size + 1 + 1), 0, none⟩ = some (.int .u64 0) := q3.cell 0; have q3c1 : w2.cell? ⟨(w.heap.size + 1 + 1), 1, none⟩ = some (.float .f64 0) := q3.cell 1; have q3z := q3.lt
  have q3f0 := q3.free 0
  have q3f1 := q3.free 1
  go_wp2_with fail
  refine ret_cell_tmp [.int .u64 k, .float .f64 (inv c)] Try.results72 rfl (Try.isAgg66 _) (Try.sizeOf66 _) (t := 66) ?_ rfl ?_; next => (exact (by repeat' (first | with_reducible assumption | (show (_ : List Value) = _; rfl) | with_reducible exact Blk.new _ _ rfl | (with_reducible refine Blk.new _ _ ?_; simp; done) | with_reducible apply Blk.set_eq | with_reducible apply Blk.other | with_reducible apply Blk.alloc | with_reducible apply Blk.drew | (simp; done) | (simp; omega))))
  exact ⟨rfl, (by repeat' (first | with_reducible exact Below.refl _ _ | with_reducible assumption | with_reducible refine bel_drew ?_ | with_reducible refine bel_alloc ?_ _ | with_reducible refine bel_set ?_ ?_ _ | with_reducible refine bel_call ?_ (by assumption) | (dsimp only; omega) | (simp; done) | (simp; omega)))⟩
set_option maxRecDepth 100000 in
set_option maxHeartbeats 1000000 in
theorem rone9_keep (n : Int) (y : Nat) (k : Int) (x : Nat) (w : World) (ho : Stp.ok ⟨9, n, y⟩) (hr : Rc.ok ⟨k, x⟩) (hf' : Fl.rung (canon x) < 2047 * 2 ^ 52) :
    Calls Try.prog 72 #[.agg #[.int .i64 9, .int .i64 n, .float .f64 y], .agg #[.int .u64 k, .float .f64 x]] w fun e w' => e = .returned (.tuple #[.agg #[.int .u64 (one ⟨9, n, y⟩ ⟨k, x⟩).1.key, .float .f64 (one ⟨9, n, y⟩ ⟨k, x⟩).1.val], .int .i64 (one ⟨9, n, y⟩ ⟨k, x⟩).2]) ∧ Below w.heap.size w w' := by
  obtain ⟨_, _, hn1, hn2, hy⟩ := ho
  obtain ⟨hk0, hk1, hx⟩ := hr
  dsimp only at *
  have c1 := fun w => rstep_any ⟨9, n, y⟩ w
  dsimp only at c1
  have C2 := Lib.hid (fun w => rcanon_any x w hx)
  have hc := Fl.canon_lt hx
  have hcc := Fl.canon_canon x
  have hs : isStp ⟨9, n, y⟩ = true := by unfold isStp; dsimp only; rw [if_neg (show ¬ (9 : Int) = 7 by decide), if_neg (show ¬ (9 : Int) = 11 by decide)]; rfl
  rw [hs] at c1
  have C1 := Lib.hid c1
  clear c1
  have hf : fate ⟨9, n, y⟩ (canon x) = 1 := by
    unfold fate
    dsimp only
    rw [if_neg (show ¬ (9 : Int) = 1 by decide), if_neg (show ¬ (9 : Int) = 2 by decide), if_neg (show ¬ (9 : Int) = 3 by decide), if_pos rfl, if_neg (by omega)]
  have hnk : nkey ⟨9, n, y⟩ k (canon x) = k := by unfold nkey; dsimp only; rw [if_neg (show ¬ (9 : Int) = 11 by decide), if_neg (show ¬ (9 : Int) = 12 by decide)]
  have hnv : nval ⟨9, n, y⟩ (canon x) = canon x := by unfold nval; dsimp only; rw [if_neg (show ¬ (9 : Int) = 4 by decide), if_neg (show ¬ (9 : Int) = 5 by decide), if_neg (show ¬ (9 : Int) = 6 by decide), if_neg (show ¬ (9 : Int) = 7 by decide), if_neg (show ¬ (9 : Int) = 8 by decide), if_neg (show ¬ (9 : Int) = 10 by decide)]
  rw [one_yes (r := ⟨k, x⟩) hs hf, hnk, hnv]
  dsimp only
  have g1 := fun w => sub_self_run 64 hc hf' w
  have g2 := zero_neq 64
  have C3 := Lib.hid (fun w => rcanon_any (canon x) w hc)
  rw [hcc] at C3
  clear hf hf' hs hnk hnv
  clear hc hcc hx hy hn1 hn2
  generalize canon x = c at *
  go_enter Try.func72, Try.ntmps72
  go_wp2_with fail
  refine (C1.out _).mono ?_
  rintro e w1 ⟨rfl, hb⟩
  have q0 : Blk w1 w.heap.size [.int .i64 9, .int .i64 n, .float .f64 y] 73 := Blk.below (by repeat' (first | with_reducible assumption | (show (_ : List Value) = _; rfl) | with_reducible exact Blk.new _ _ rfl | (with_reducible refine Blk.new _ _ ?_; simp; done) | with_reducible apply Blk.set_eq | with_reducible apply Blk.other | with_reducible apply Blk.alloc | with_reducible apply Blk.drew | (simp; done) | (simp; omega))) hb
  have q1 : Blk w1 (w.heap.size + 1) [.int .u64 k, .float .f64 x] 66 := Blk.below (by repeat' (first | with_reducible assumption | (show (_ : List Value) = _; rfl) | with_reducible exact Blk.new _ _ rfl | (with_reducible refine Blk.new _ _ ?_; simp; done) | with_reducible apply Blk.set_eq | with_reducible apply Blk.other | with_reducible apply Blk.alloc | with_reducible apply Blk.drew | (simp; done) | (simp; omega))) hb
  have q2 : Blk w1 (w.heap.size + 1 + 1) [.int .u64 0, .float .f64 0] 66 := Blk.below (by repeat' (first | with_reducible assumption | (show (_ : List Value) = _; rfl) | with_reducible exact Blk.new _ _ rfl | (with_reducible refine Blk.new _ _ ?_; simp; done) | with_reducible apply Blk.set_eq | with_reducible apply Blk.other | with_reducible apply Blk.alloc | with_reducible apply Blk.drew | (simp; done) | (simp; omega))) hb
  have p1 : Below w.heap.size w w1 := (by repeat' (first | with_reducible exact Below.refl _ _ | with_reducible assumption | with_reducible refine bel_drew ?_ | with_reducible refine bel_alloc ?_ _ | with_reducible refine bel_set ?_ ?_ _ | with_reducible refine bel_call ?_ (by assumption) | (dsimp only; omega) | (simp; done) | (simp; omega)))
  clear hb
  have q0c0 : w1.cell? ⟨w.heap.size, 0, none⟩ = some (.int .i64 9) := q0.cell 0; have q0c1 : w1.cell? ⟨w.heap.size, 1, none⟩ = some (.int .i64 n) := q0.cell 1; have q0c2 : w1.cell? ⟨w.heap.size, 2, none⟩ = some (.float .f64 y) := q0.cell 2; have q0z := q0.lt
  have q1c0 : w1.cell? ⟨(w.heap.size + 1), 0, none⟩ = some (.int .u64 k) := q1.cell 0; have q1c1 : w1.cell? ⟨(w.heap.size + 1), 1, none⟩ = some (.float .f64 x) := q1.cell 1; have q1z := q1.lt
  have q2c0 : w1.cell? ⟨(w.heap.size + 1 + 1), 0, none⟩ = some (.int .u64 0) := q2.cell 0; have q2c1 : w1.cell? ⟨(w.heap.size + 1 + 1), 1, none⟩ = some (.float .f64 0) := q2.cell 1; have q2z := q2.lt
  have q2f0 := q2.free 0
  have q2f1 := q2.free 1
  go_wp2_with fail
  refine (C2.out _).mono ?_
  rintro e v ⟨rfl, rfl⟩
  go_wp2_with fail
  refine (C3.out _).mono ?_
  rintro e v ⟨rfl, rfl⟩
  go_wp2_with fail
  refine ret_cell_tmp [.int .u64 k, .float .f64 c] Try.results72 rfl (Try.isAgg66 _) (Try.sizeOf66 _) (t := 66) ?_ rfl ?_; next => (exact (by repeat' (first | with_reducible assumption | (show (_ : List Value) = _; rfl) | with_reducible exact Blk.new _ _ rfl | (with_reducible refine Blk.new _ _ ?_; simp; done) | with_reducible apply Blk.set_eq | with_reducible apply Blk.other | with_reducible apply Blk.alloc | with_reducible apply Blk.drew | (simp; done) | (simp; omega))))
  exact ⟨rfl, (by repeat' (first | with_reducible exact Below.refl _ _ | with_reducible assumption | with_reducible refine bel_drew ?_ | with_reducible refine bel_alloc ?_ _ | with_reducible refine bel_set ?_ ?_ _ | with_reducible refine bel_call ?_ (by assumption) | (dsimp only; omega) | (simp; done) | (simp; omega)))⟩
set_option maxRecDepth 100000 in
set_option maxHeartbeats 1000000 in
theorem rone9_trap (n : Int) (y : Nat) (k : Int) (x : Nat) (w : World) (ho : Stp.ok ⟨9, n, y⟩) (hr : Rc.ok ⟨k, x⟩) (hf' : 2047 * 2 ^ 52 ≤ Fl.rung (canon x)) :
    Calls Try.prog 72 #[.agg #[.int .i64 9, .int .i64 n, .float .f64 y], .agg #[.int .u64 k, .float .f64 x]] w fun e w' => e = .returned (.tuple #[.agg #[.int .u64 (one ⟨9, n, y⟩ ⟨k, x⟩).1.key, .float .f64 (one ⟨9, n, y⟩ ⟨k, x⟩).1.val], .int .i64 (one ⟨9, n, y⟩ ⟨k, x⟩).2]) ∧ Below w.heap.size w w' := by
  obtain ⟨_, _, hn1, hn2, hy⟩ := ho
  obtain ⟨hk0, hk1, hx⟩ := hr
  dsimp only at *
  have c1 := fun w => rstep_any ⟨9, n, y⟩ w
  dsimp only at c1
  have C2 := Lib.hid (fun w => rcanon_any x w hx)
  have hc := Fl.canon_lt hx
  have hcc := Fl.canon_canon x
  have hs : isStp ⟨9, n, y⟩ = true := by unfold isStp; dsimp only; rw [if_neg (show ¬ (9 : Int) = 7 by decide), if_neg (show ¬ (9 : Int) = 11 by decide)]; rfl
  rw [hs] at c1
  have C1 := Lib.hid c1
  clear c1
  have hf : fate ⟨9, n, y⟩ (canon x) = 3 := by
    unfold fate
    dsimp only
    rw [if_neg (show ¬ (9 : Int) = 1 by decide), if_neg (show ¬ (9 : Int) = 2 by decide), if_neg (show ¬ (9 : Int) = 3 by decide), if_pos rfl, if_pos hf']
  rw [one_else (r := ⟨k, x⟩) hs hf (by decide)]
  dsimp only
  have q0 := run_arith_nan .sub 64 (.inr rfl) (sub_self_none hc hf')
  obtain ⟨nv, hv⟩ : ∃ nv : World → Nat, ∀ w, (binOp .sub 64 (.float .f64 (canon x)) (.float .f64 (canon x))).run Try.prog w = .ok (.float .f64 (nv w)) w.drew ∧ nan (nv w) = true ∧ nv w < 2 ^ 64 := ⟨fun w => (q0 w).choose, fun w => (q0 w).choose_spec⟩
  have g1 := fun w => (hv w).1
  have g2 := fun w => neq_zero_nan 64 (hv w).2.1
  clear q0 hv hf hf' hs
  clear hc hcc hx hy hn1 hn2
  generalize canon x = c at *
  go_enter Try.func72, Try.ntmps72
  go_wp2_with fail
  refine (C1.out _).mono ?_
  rintro e w1 ⟨rfl, hb⟩
  have q0 : Blk w1 w.heap.size [.int .i64 9, .int .i64 n, .float .f64 y] 73 := Blk.below (by repeat' (first | with_reducible assumption | (show (_ : List Value) = _; rfl) | with_reducible exact Blk.new _ _ rfl | (with_reducible refine Blk.new _ _ ?_; simp; done) | with_reducible apply Blk.set_eq | with_reducible apply Blk.other | with_reducible apply Blk.alloc | with_reducible apply Blk.drew | (simp; done) | (simp; omega))) hb
  have q1 : Blk w1 (w.heap.size + 1) [.int .u64 k, .float .f64 x] 66 := Blk.below (by repeat' (first | with_reducible assumption | (show (_ : List Value) = _; rfl) | with_reducible exact Blk.new _ _ rfl | (with_reducible refine Blk.new _ _ ?_; simp; done) | with_reducible apply Blk.set_eq | with_reducible apply Blk.other | with_reducible apply Blk.alloc | with_reducible apply Blk.drew | (simp; done) | (simp; omega))) hb
  have q2 : Blk w1 (w.heap.size + 1 + 1) [.int .u64 0, .float .f64 0] 66 := Blk.below (by repeat' (first | with_reducible assumption | (show (_ : List Value) = _; rfl) | with_reducible exact Blk.new _ _ rfl | (with_reducible refine Blk.new _ _ ?_; simp; done) | with_reducible apply Blk.set_eq | with_reducible apply Blk.other | with_reducible apply Blk.alloc | with_reducible apply Blk.drew | (simp; done) | (simp; omega))) hb
  have p1 : Below w.heap.size w w1 := (by repeat' (first | with_reducible exact Below.refl _ _ | with_reducible assumption | with_reducible refine bel_drew ?_ | with_reducible refine bel_alloc ?_ _ | with_reducible refine bel_set ?_ ?_ _ | with_reducible refine bel_call ?_ (by assumption) | (dsimp only; omega) | (simp; done) | (simp; omega)))
  clear hb
  have q0c0 : w1.cell? ⟨w.heap.size, 0, none⟩ = some (.int .i64 9) := q0.cell 0; have q0c1 : w1.cell? ⟨w.heap.size, 1, none⟩ = some (.int .i64 n) := q0.cell 1; have q0c2 : w1.cell? ⟨w.heap.size, 2, none⟩ = some (.float .f64 y) := q0.cell 2; have q0z := q0.lt
  have q1c0 : w1.cell? ⟨(w.heap.size + 1), 0, none⟩ = some (.int .u64 k) := q1.cell 0; have q1c1 : w1.cell? ⟨(w.heap.size + 1), 1, none⟩ = some (.float .f64 x) := q1.cell 1; have q1z := q1.lt
  have q2c0 : w1.cell? ⟨(w.heap.size + 1 + 1), 0, none⟩ = some (.int .u64 0) := q2.cell 0; have q2c1 : w1.cell? ⟨(w.heap.size + 1 + 1), 1, none⟩ = some (.float .f64 0) := q2.cell 1; have q2z := q2.lt
  have q2f0 := q2.free 0
  have q2f1 := q2.free 1
  go_wp2_with fail
  refine (C2.out _).mono ?_
  rintro e v ⟨rfl, rfl⟩
  go_wp2_with fail
  refine ret_cell_tmp [.int .u64 0, .float .f64 0] Try.results72 rfl (Try.isAgg66 _) (Try.sizeOf66 _) (t := 66) ?_ rfl ?_; next => (exact (by repeat' (first | with_reducible assumption | (show (_ : List Value) = _; rfl) | with_reducible exact Blk.new _ _ rfl | (with_reducible refine Blk.new _ _ ?_; simp; done) | with_reducible apply Blk.set_eq | with_reducible apply Blk.other | with_reducible apply Blk.alloc | with_reducible apply Blk.drew | (simp; done) | (simp; omega))))
  exact ⟨rfl, (by repeat' (first | with_reducible exact Below.refl _ _ | with_reducible assumption | with_reducible refine bel_drew ?_ | with_reducible refine bel_alloc ?_ _ | with_reducible refine bel_set ?_ ?_ _ | with_reducible refine bel_call ?_ (by assumption) | (dsimp only; omega) | (simp; done) | (simp; omega)))⟩
set_option maxRecDepth 100000 in
set_option maxHeartbeats 1000000 in
theorem rone10_keep (n : Int) (y : Nat) (k : Int) (x : Nat) (w : World) (ho : Stp.ok ⟨10, n, y⟩) (hr : Rc.ok ⟨k, x⟩) (hf' : ¬ Fl.whole (canon x) = 0) :
    Calls Try.prog 72 #[.agg #[.int .i64 10, .int .i64 n, .float .f64 y], .agg #[.int .u64 k, .float .f64 x]] w fun e w' => e = .returned (.tuple #[.agg #[.int .u64 (one ⟨10, n, y⟩ ⟨k, x⟩).1.key, .float .f64 (one ⟨10, n, y⟩ ⟨k, x⟩).1.val], .int .i64 (one ⟨10, n, y⟩ ⟨k, x⟩).2]) ∧ Below w.heap.size w w' := by
  obtain ⟨_, _, hn1, hn2, hy⟩ := ho
  obtain ⟨hk0, hk1, hx⟩ := hr
  dsimp only at *
  have c1 := fun w => rstep_any ⟨10, n, y⟩ w
  dsimp only at c1
  have C2 := Lib.hid (fun w => rcanon_any x w hx)
  have hc := Fl.canon_lt hx
  have hcc := Fl.canon_canon x
  have hs : isStp ⟨10, n, y⟩ = true := by unfold isStp; dsimp only; rw [if_neg (show ¬ (10 : Int) = 7 by decide), if_neg (show ¬ (10 : Int) = 11 by decide)]; rfl
  rw [hs] at c1
  have C1 := Lib.hid c1
  clear c1
  have hf : fate ⟨10, n, y⟩ (canon x) = 1 := by
    unfold fate
    dsimp only
    rw [if_neg (show ¬ (10 : Int) = 1 by decide), if_neg (show ¬ (10 : Int) = 2 by decide), if_neg (show ¬ (10 : Int) = 3 by decide), if_neg (show ¬ (10 : Int) = 9 by decide), if_pos rfl, if_neg hf']
  have hnk : nkey ⟨10, n, y⟩ k (canon x) = k := by unfold nkey; dsimp only; rw [if_neg (show ¬ (10 : Int) = 11 by decide), if_neg (show ¬ (10 : Int) = 12 by decide)]
  have hnv : nval ⟨10, n, y⟩ (canon x) = floatOfInt .f64 (wrap64 (n.tdiv (Fl.whole (canon x)))) := by unfold nval; dsimp only; rw [if_neg (show ¬ (10 : Int) = 4 by decide), if_neg (show ¬ (10 : Int) = 5 by decide), if_neg (show ¬ (10 : Int) = 6 by decide), if_neg (show ¬ (10 : Int) = 7 by decide), if_neg (show ¬ (10 : Int) = 8 by decide), if_pos rfl]
  rw [one_yes (r := ⟨k, x⟩) hs hf, hnk, hnv]
  dsimp only
  have C4 := Lib.hid (fun w => rwhole_any (canon x) w hc)
  have C5 := Lib.hid (fun w => per_any n (Fl.whole (canon x)) w hf')
  have C6 := Lib.hid (fun w => rof_any (wrap64 (n.tdiv (Fl.whole (canon x)))) w)
  have C3 := Lib.hid (fun w => rcanon_any (floatOfInt .f64 (wrap64 (n.tdiv (Fl.whole (canon x))))) w (Fl.ofInt_lt _))
  rw [Fl.canon_num (Fl.nan_ofInt _)] at C3
  have hz : (Fl.whole (canon x) == 0) = false := beq_eq_false_iff_ne.2 hf'
  clear hf hf' hs hnk hnv
  generalize wrap64 (n.tdiv (Fl.whole (canon x))) = m at *
  generalize Fl.whole (canon x) = W at *
  clear hc hcc hx hy hn1 hn2
  generalize canon x = c at *
  go_enter Try.func72, Try.ntmps72
  go_wp2_with fail
  refine (C1.out _).mono ?_
  rintro e w1 ⟨rfl, hb⟩
  have q0 : Blk w1 w.heap.size [.int .i64 10, .int .i64 n, .float .f64 y] 73 := Blk.below (by repeat' (first | with_reducible assumption | (show (_ : List Value) = _; rfl) | with_reducible exact Blk.new _ _ rfl | (with_reducible refine Blk.new _ _ ?_; simp; done) | with_reducible apply Blk.set_eq | with_reducible apply Blk.other | with_reducible apply Blk.alloc | with_reducible apply Blk.drew | (simp; done) | (simp; omega))) hb
  have q1 : Blk w1 (w.heap.size + 1) [.int .u64 k, .float .f64 x] 66 := Blk.below (by repeat' (first | with_reducible assumption | (show (_ : List Value) = _; rfl) | with_reducible exact Blk.new _ _ rfl | (with_reducible refine Blk.new _ _ ?_; simp; done) | with_reducible apply Blk.set_eq | with_reducible apply Blk.other | with_reducible apply Blk.alloc | with_reducible apply Blk.drew | (simp; done) | (simp; omega))) hb
  have q2 : Blk w1 (w.heap.size + 1 + 1) [.int .u64 0, .float .f64 0] 66 := Blk.below (by repeat' (first | with_reducible assumption | (show (_ : List Value) = _; rfl) | with_reducible exact Blk.new _ _ rfl | (with_reducible refine Blk.new _ _ ?_; simp; done) | with_reducible apply Blk.set_eq | with_reducible apply Blk.other | with_reducible apply Blk.alloc | with_reducible apply Blk.drew | (simp; done) | (simp; omega))) hb
  have p1 : Below w.heap.size w w1 := (by repeat' (first | with_reducible exact Below.refl _ _ | with_reducible assumption | with_reducible refine bel_drew ?_ | with_reducible refine bel_alloc ?_ _ | with_reducible refine bel_set ?_ ?_ _ | with_reducible refine bel_call ?_ (by assumption) | (dsimp only; omega) | (simp; done) | (simp; omega)))
  clear hb
  have q0c0 : w1.cell? ⟨w.heap.size, 0, none⟩ = some (.int .i64 10) := q0.cell 0; have q0c1 : w1.cell? ⟨w.heap.size, 1, none⟩ = some (.int .i64 n) := q0.cell 1; have q0c2 : w1.cell? ⟨w.heap.size, 2, none⟩ = some (.float .f64 y) := q0.cell 2; have q0z := q0.lt
  have q1c0 : w1.cell? ⟨(w.heap.size + 1), 0, none⟩ = some (.int .u64 k) := q1.cell 0; have q1c1 : w1.cell? ⟨(w.heap.size + 1), 1, none⟩ = some (.float .f64 x) := q1.cell 1; have q1z := q1.lt
  have q2c0 : w1.cell? ⟨(w.heap.size + 1 + 1), 0, none⟩ = some (.int .u64 0) := q2.cell 0; have q2c1 : w1.cell? ⟨(w.heap.size + 1 + 1), 1, none⟩ = some (.float .f64 0) := q2.cell 1; have q2z := q2.lt
  have q2f0 := q2.free 0
  have q2f1 := q2.free 1
  go_wp2_with fail
  refine (C2.out _).mono ?_
  rintro e v ⟨rfl, rfl⟩
  go_wp2_with fail
  refine (C4.out _).mono ?_
  rintro e v ⟨rfl, rfl⟩
  go_wp2_with fail
  refine (C5.out _).mono ?_
  rintro e v ⟨rfl, rfl⟩
  go_wp2_with fail
  refine (C6.out _).mono ?_
  rintro e v ⟨rfl, rfl⟩
  go_wp2_with fail
  refine (C3.out _).mono ?_
  rintro e v ⟨rfl, rfl⟩
  go_wp2_with fail
  refine ret_cell_tmp [.int .u64 k, .float .f64 (floatOfInt .f64 m)] Try.results72 rfl (Try.isAgg66 _) (Try.sizeOf66 _) (t := 66) ?_ rfl ?_; next => (exact (by repeat' (first | with_reducible assumption | (show (_ : List Value) = _; rfl) | with_reducible exact Blk.new _ _ rfl | (with_reducible refine Blk.new _ _ ?_; simp; done) | with_reducible apply Blk.set_eq | with_reducible apply Blk.other | with_reducible apply Blk.alloc | with_reducible apply Blk.drew | (simp; done) | (simp; omega))))
  exact ⟨rfl, (by repeat' (first | with_reducible exact Below.refl _ _ | with_reducible assumption | with_reducible refine bel_drew ?_ | with_reducible refine bel_alloc ?_ _ | with_reducible refine bel_set ?_ ?_ _ | with_reducible refine bel_call ?_ (by assumption) | (dsimp only; omega) | (simp; done) | (simp; omega)))⟩
set_option maxRecDepth 100000 in
set_option maxHeartbeats 1000000 in
theorem rone10_trap (n : Int) (y : Nat) (k : Int) (x : Nat) (w : World) (ho : Stp.ok ⟨10, n, y⟩) (hr : Rc.ok ⟨k, x⟩) (hf' : Fl.whole (canon x) = 0) :
    Calls Try.prog 72 #[.agg #[.int .i64 10, .int .i64 n, .float .f64 y], .agg #[.int .u64 k, .float .f64 x]] w fun e w' => e = .returned (.tuple #[.agg #[.int .u64 (one ⟨10, n, y⟩ ⟨k, x⟩).1.key, .float .f64 (one ⟨10, n, y⟩ ⟨k, x⟩).1.val], .int .i64 (one ⟨10, n, y⟩ ⟨k, x⟩).2]) ∧ Below w.heap.size w w' := by
  obtain ⟨_, _, hn1, hn2, hy⟩ := ho
  obtain ⟨hk0, hk1, hx⟩ := hr
  dsimp only at *
  have c1 := fun w => rstep_any ⟨10, n, y⟩ w
  dsimp only at c1
  have C2 := Lib.hid (fun w => rcanon_any x w hx)
  have hc := Fl.canon_lt hx
  have hcc := Fl.canon_canon x
  have hs : isStp ⟨10, n, y⟩ = true := by unfold isStp; dsimp only; rw [if_neg (show ¬ (10 : Int) = 7 by decide), if_neg (show ¬ (10 : Int) = 11 by decide)]; rfl
  rw [hs] at c1
  have C1 := Lib.hid c1
  clear c1
  have hf : fate ⟨10, n, y⟩ (canon x) = 3 := by
    unfold fate
    dsimp only
    rw [if_neg (show ¬ (10 : Int) = 1 by decide), if_neg (show ¬ (10 : Int) = 2 by decide), if_neg (show ¬ (10 : Int) = 3 by decide), if_neg (show ¬ (10 : Int) = 9 by decide), if_pos rfl, if_pos hf']
  rw [one_else (r := ⟨k, x⟩) hs hf (by decide)]
  dsimp only
  have C4 := Lib.hid (fun w => rwhole_any (canon x) w hc)
  rw [hf'] at C4
  clear hf hf' hs
  clear hc hcc hx hy hn1 hn2
  generalize canon x = c at *
  go_enter Try.func72, Try.ntmps72
  go_wp2_with fail
  refine (C1.out _).mono ?_
  rintro e w1 ⟨rfl, hb⟩
  have q0 : Blk w1 w.heap.size [.int .i64 10, .int .i64 n, .float .f64 y] 73 := Blk.below (by repeat' (first | with_reducible assumption | (show (_ : List Value) = _; rfl) | with_reducible exact Blk.new _ _ rfl | (with_reducible refine Blk.new _ _ ?_; simp; done) | with_reducible apply Blk.set_eq | with_reducible apply Blk.other | with_reducible apply Blk.alloc | with_reducible apply Blk.drew | (simp; done) | (simp; omega))) hb
  have q1 : Blk w1 (w.heap.size + 1) [.int .u64 k, .float .f64 x] 66 := Blk.below (by repeat' (first | with_reducible assumption | (show (_ : List Value) = _; rfl) | with_reducible exact Blk.new _ _ rfl | (with_reducible refine Blk.new _ _ ?_; simp; done) | with_reducible apply Blk.set_eq | with_reducible apply Blk.other | with_reducible apply Blk.alloc | with_reducible apply Blk.drew | (simp; done) | (simp; omega))) hb
  have q2 : Blk w1 (w.heap.size + 1 + 1) [.int .u64 0, .float .f64 0] 66 := Blk.below (by repeat' (first | with_reducible assumption | (show (_ : List Value) = _; rfl) | with_reducible exact Blk.new _ _ rfl | (with_reducible refine Blk.new _ _ ?_; simp; done) | with_reducible apply Blk.set_eq | with_reducible apply Blk.other | with_reducible apply Blk.alloc | with_reducible apply Blk.drew | (simp; done) | (simp; omega))) hb
  have p1 : Below w.heap.size w w1 := (by repeat' (first | with_reducible exact Below.refl _ _ | with_reducible assumption | with_reducible refine bel_drew ?_ | with_reducible refine bel_alloc ?_ _ | with_reducible refine bel_set ?_ ?_ _ | with_reducible refine bel_call ?_ (by assumption) | (dsimp only; omega) | (simp; done) | (simp; omega)))
  clear hb
  have q0c0 : w1.cell? ⟨w.heap.size, 0, none⟩ = some (.int .i64 10) := q0.cell 0; have q0c1 : w1.cell? ⟨w.heap.size, 1, none⟩ = some (.int .i64 n) := q0.cell 1; have q0c2 : w1.cell? ⟨w.heap.size, 2, none⟩ = some (.float .f64 y) := q0.cell 2; have q0z := q0.lt
  have q1c0 : w1.cell? ⟨(w.heap.size + 1), 0, none⟩ = some (.int .u64 k) := q1.cell 0; have q1c1 : w1.cell? ⟨(w.heap.size + 1), 1, none⟩ = some (.float .f64 x) := q1.cell 1; have q1z := q1.lt
  have q2c0 : w1.cell? ⟨(w.heap.size + 1 + 1), 0, none⟩ = some (.int .u64 0) := q2.cell 0; have q2c1 : w1.cell? ⟨(w.heap.size + 1 + 1), 1, none⟩ = some (.float .f64 0) := q2.cell 1; have q2z := q2.lt
  have q2f0 := q2.free 0
  have q2f1 := q2.free 1
  go_wp2_with fail
  refine (C2.out _).mono ?_
  rintro e v ⟨rfl, rfl⟩
  go_wp2_with fail
  refine (C4.out _).mono ?_
  rintro e v ⟨rfl, rfl⟩
  go_wp2_with fail
  refine ret_cell_tmp [.int .u64 0, .float .f64 0] Try.results72 rfl (Try.isAgg66 _) (Try.sizeOf66 _) (t := 66) ?_ rfl ?_; next => (exact (by repeat' (first | with_reducible assumption | (show (_ : List Value) = _; rfl) | with_reducible exact Blk.new _ _ rfl | (with_reducible refine Blk.new _ _ ?_; simp; done) | with_reducible apply Blk.set_eq | with_reducible apply Blk.other | with_reducible apply Blk.alloc | with_reducible apply Blk.drew | (simp; done) | (simp; omega))))
  exact ⟨rfl, (by repeat' (first | with_reducible exact Below.refl _ _ | with_reducible assumption | with_reducible refine bel_drew ?_ | with_reducible refine bel_alloc ?_ _ | with_reducible refine bel_set ?_ ?_ _ | with_reducible refine bel_call ?_ (by assumption) | (dsimp only; omega) | (simp; done) | (simp; omega)))⟩
set_option maxRecDepth 100000 in
set_option maxHeartbeats 1000000 in
theorem rone11 (n : Int) (y : Nat) (k : Int) (x : Nat) (w : World) (ho : Stp.ok ⟨11, n, y⟩) (hr : Rc.ok ⟨k, x⟩) (hn : 1 ≤ n) :
    Calls Try.prog 72 #[.agg #[.int .i64 11, .int .i64 n, .float .f64 y], .agg #[.int .u64 k, .float .f64 x]] w fun e w' => e = .returned (.tuple #[.agg #[.int .u64 (one ⟨11, n, y⟩ ⟨k, x⟩).1.key, .float .f64 (one ⟨11, n, y⟩ ⟨k, x⟩).1.val], .int .i64 (one ⟨11, n, y⟩ ⟨k, x⟩).2]) ∧ Below w.heap.size w w' := by
  obtain ⟨_, _, hn1, hn2, hy⟩ := ho
  obtain ⟨hk0, hk1, hx⟩ := hr
  dsimp only at *
  have c1 := fun w => rstep_any ⟨11, n, y⟩ w
  dsimp only at c1
  have C2 := Lib.hid (fun w => rcanon_any x w hx)
  have hc := Fl.canon_lt hx
  have hcc := Fl.canon_canon x
  have hs : isStp ⟨11, n, y⟩ = true := by unfold isStp; dsimp only; rw [if_neg (show ¬ (11 : Int) = 7 by decide), if_pos rfl]; exact decide_eq_true hn
  rw [hs] at c1
  have C1 := Lib.hid c1
  clear c1
  have hf : fate ⟨11, n, y⟩ (canon x) = 1 := by
    unfold fate
    dsimp only
    rw [if_neg (show ¬ (11 : Int) = 1 by decide), if_neg (show ¬ (11 : Int) = 2 by decide), if_neg (show ¬ (11 : Int) = 3 by decide), if_neg (show ¬ (11 : Int) = 9 by decide), if_neg (show ¬ (11 : Int) = 10 by decide)]
  have hnk : nkey ⟨11, n, y⟩ k (canon x) = k % n := by unfold nkey; dsimp only; rw [if_pos rfl]
  have hnv : nval ⟨11, n, y⟩ (canon x) = canon x := by unfold nval; dsimp only; rw [if_neg (show ¬ (11 : Int) = 4 by decide), if_neg (show ¬ (11 : Int) = 5 by decide), if_neg (show ¬ (11 : Int) = 6 by decide), if_neg (show ¬ (11 : Int) = 7 by decide), if_neg (show ¬ (11 : Int) = 8 by decide), if_neg (show ¬ (11 : Int) = 10 by decide)]
  rw [one_yes (r := ⟨k, x⟩) hs hf, hnk, hnv]
  dsimp only
  have C3 := Lib.hid (fun w => rcanon_any (canon x) w hc)
  rw [hcc] at C3
  have ht := tmod_pos (b := n) hk0
  have hn0 : ¬ n = 0 := by omega
  have hn3 : n ≤ 9223372036854775807 := hn2
  clear hf hs hnk hnv
  clear hc hcc hx hy hn1 hn2
  generalize canon x = c at *
  go_enter Try.func72, Try.ntmps72
  go_wp2_with fail
  refine (C1.out _).mono ?_
  rintro e w1 ⟨rfl, hb⟩
  have q0 : Blk w1 w.heap.size [.int .i64 11, .int .i64 n, .float .f64 y] 73 := Blk.below (by repeat' (first | with_reducible assumption | (show (_ : List Value) = _; rfl) | with_reducible exact Blk.new _ _ rfl | (with_reducible refine Blk.new _ _ ?_; simp; done) | with_reducible apply Blk.set_eq | with_reducible apply Blk.other | with_reducible apply Blk.alloc | with_reducible apply Blk.drew | (simp; done) | (simp; omega))) hb
  have q1 : Blk w1 (w.heap.size + 1) [.int .u64 k, .float .f64 x] 66 := Blk.below (by repeat' (first | with_reducible assumption | (show (_ : List Value) = _; rfl) | with_reducible exact Blk.new _ _ rfl | (with_reducible refine Blk.new _ _ ?_; simp; done) | with_reducible apply Blk.set_eq | with_reducible apply Blk.other | with_reducible apply Blk.alloc | with_reducible apply Blk.drew | (simp; done) | (simp; omega))) hb
  have q2 : Blk w1 (w.heap.size + 1 + 1) [.int .u64 0, .float .f64 0] 66 := Blk.below (by repeat' (first | with_reducible assumption | (show (_ : List Value) = _; rfl) | with_reducible exact Blk.new _ _ rfl | (with_reducible refine Blk.new _ _ ?_; simp; done) | with_reducible apply Blk.set_eq | with_reducible apply Blk.other | with_reducible apply Blk.alloc | with_reducible apply Blk.drew | (simp; done) | (simp; omega))) hb
  have p1 : Below w.heap.size w w1 := (by repeat' (first | with_reducible exact Below.refl _ _ | with_reducible assumption | with_reducible refine bel_drew ?_ | with_reducible refine bel_alloc ?_ _ | with_reducible refine bel_set ?_ ?_ _ | with_reducible refine bel_call ?_ (by assumption) | (dsimp only; omega) | (simp; done) | (simp; omega)))
  clear hb
  have q0c0 : w1.cell? ⟨w.heap.size, 0, none⟩ = some (.int .i64 11) := q0.cell 0; have q0c1 : w1.cell? ⟨w.heap.size, 1, none⟩ = some (.int .i64 n) := q0.cell 1; have q0c2 : w1.cell? ⟨w.heap.size, 2, none⟩ = some (.float .f64 y) := q0.cell 2; have q0z := q0.lt
  have q1c0 : w1.cell? ⟨(w.heap.size + 1), 0, none⟩ = some (.int .u64 k) := q1.cell 0; have q1c1 : w1.cell? ⟨(w.heap.size + 1), 1, none⟩ = some (.float .f64 x) := q1.cell 1; have q1z := q1.lt
  have q2c0 : w1.cell? ⟨(w.heap.size + 1 + 1), 0, none⟩ = some (.int .u64 0) := q2.cell 0; have q2c1 : w1.cell? ⟨(w.heap.size + 1 + 1), 1, none⟩ = some (.float .f64 0) := q2.cell 1; have q2z := q2.lt
  have q2f0 := q2.free 0
  have q2f1 := q2.free 1
  go_wp2_with fail
  refine (C2.out _).mono ?_
  rintro e v ⟨rfl, rfl⟩
  go_wp2_with fail
  refine (C3.out _).mono ?_
  rintro e v ⟨rfl, rfl⟩
  go_wp2_with fail
  refine ret_cell_tmp [.int .u64 (k % n), .float .f64 c] Try.results72 rfl (Try.isAgg66 _) (Try.sizeOf66 _) (t := 66) ?_ rfl ?_; next => (exact (by repeat' (first | with_reducible assumption | (show (_ : List Value) = _; rfl) | with_reducible exact Blk.new _ _ rfl | (with_reducible refine Blk.new _ _ ?_; simp; done) | with_reducible apply Blk.set_eq | with_reducible apply Blk.other | with_reducible apply Blk.alloc | with_reducible apply Blk.drew | (simp; done) | (simp; omega))))
  exact ⟨rfl, (by repeat' (first | with_reducible exact Below.refl _ _ | with_reducible assumption | with_reducible refine bel_drew ?_ | with_reducible refine bel_alloc ?_ _ | with_reducible refine bel_set ?_ ?_ _ | with_reducible refine bel_call ?_ (by assumption) | (dsimp only; omega) | (simp; done) | (simp; omega)))⟩
set_option maxRecDepth 100000 in
set_option maxHeartbeats 1000000 in
theorem rone12 (n : Int) (y : Nat) (k : Int) (x : Nat) (w : World) (ho : Stp.ok ⟨12, n, y⟩) (hr : Rc.ok ⟨k, x⟩)  :
    Calls Try.prog 72 #[.agg #[.int .i64 12, .int .i64 n, .float .f64 y], .agg #[.int .u64 k, .float .f64 x]] w fun e w' => e = .returned (.tuple #[.agg #[.int .u64 (one ⟨12, n, y⟩ ⟨k, x⟩).1.key, .float .f64 (one ⟨12, n, y⟩ ⟨k, x⟩).1.val], .int .i64 (one ⟨12, n, y⟩ ⟨k, x⟩).2]) ∧ Below w.heap.size w w' := by
  obtain ⟨_, _, hn1, hn2, hy⟩ := ho
  obtain ⟨hk0, hk1, hx⟩ := hr
  dsimp only at *
  have c1 := fun w => rstep_any ⟨12, n, y⟩ w
  dsimp only at c1
  have C2 := Lib.hid (fun w => rcanon_any x w hx)
  have hc := Fl.canon_lt hx
  have hcc := Fl.canon_canon x
  have hs : isStp ⟨12, n, y⟩ = true := by unfold isStp; dsimp only; rw [if_neg (show ¬ (12 : Int) = 7 by decide), if_neg (show ¬ (12 : Int) = 11 by decide)]; rfl
  rw [hs] at c1
  have C1 := Lib.hid c1
  clear c1
  have hf : fate ⟨12, n, y⟩ (canon x) = 1 := by
    unfold fate
    dsimp only
    rw [if_neg (show ¬ (12 : Int) = 1 by decide), if_neg (show ¬ (12 : Int) = 2 by decide), if_neg (show ¬ (12 : Int) = 3 by decide), if_neg (show ¬ (12 : Int) = 9 by decide), if_neg (show ¬ (12 : Int) = 10 by decide)]
  have hnk : nkey ⟨12, n, y⟩ k (canon x) = k % 4611686018427387904 * 4 + sde (canon x) := by unfold nkey; dsimp only; rw [if_neg (show ¬ (12 : Int) = 11 by decide), if_pos rfl]
  have hnv : nval ⟨12, n, y⟩ (canon x) = canon x := by unfold nval; dsimp only; rw [if_neg (show ¬ (12 : Int) = 4 by decide), if_neg (show ¬ (12 : Int) = 5 by decide), if_neg (show ¬ (12 : Int) = 6 by decide), if_neg (show ¬ (12 : Int) = 7 by decide), if_neg (show ¬ (12 : Int) = 8 by decide), if_neg (show ¬ (12 : Int) = 10 by decide)]
  rw [one_yes (r := ⟨k, x⟩) hs hf, hnk, hnv]
  dsimp only
  have C3 := Lib.hid (fun w => rcanon_any (canon x) w hc)
  rw [hcc] at C3
  have C4 := Lib.hid (fun w => rside_any (canon x) w hc)
  have hsd := sde_bounds (canon x)
  have ht := tmod_pos (b := 4611686018427387904) hk0
  have hw1 : IntKind.u64.wrap (k % 4611686018427387904 * 4) = k % 4611686018427387904 * 4 := by rw [IntKind.wrap_u64]; omega
  have hw2 : IntKind.u64.wrap (k % 4611686018427387904 * 4 + sde (canon x)) = k % 4611686018427387904 * 4 + sde (canon x) := by rw [IntKind.wrap_u64]; omega
  clear hf hs hnk hnv hsd
  generalize sde (canon x) = sd at *
  clear hc hcc hx hy hn1 hn2
  generalize canon x = c at *
  go_enter Try.func72, Try.ntmps72
  go_wp2_with fail
  refine (C1.out _).mono ?_
  rintro e w1 ⟨rfl, hb⟩
  have q0 : Blk w1 w.heap.size [.int .i64 12, .int .i64 n, .float .f64 y] 73 := Blk.below (by repeat' (first | with_reducible assumption | (show (_ : List Value) = _; rfl) | with_reducible exact Blk.new _ _ rfl | (with_reducible refine Blk.new _ _ ?_; simp; done) | with_reducible apply Blk.set_eq | with_reducible apply Blk.other | with_reducible apply Blk.alloc | with_reducible apply Blk.drew | (simp; done) | (simp; omega))) hb
  have q1 : Blk w1 (w.heap.size + 1) [.int .u64 k, .float .f64 x] 66 := Blk.below (by repeat' (first | with_reducible assumption | (show (_ : List Value) = _; rfl) | with_reducible exact Blk.new _ _ rfl | (with_reducible refine Blk.new _ _ ?_; simp; done) | with_reducible apply Blk.set_eq | with_reducible apply Blk.other | with_reducible apply Blk.alloc | with_reducible apply Blk.drew | (simp; done) | (simp; omega))) hb
  have q2 : Blk w1 (w.heap.size + 1 + 1) [.int .u64 0, .float .f64 0] 66 := Blk.below (by repeat' (first | with_reducible assumption | (show (_ : List Value) = _; rfl) | with_reducible exact Blk.new _ _ rfl | (with_reducible refine Blk.new _ _ ?_; simp; done) | with_reducible apply Blk.set_eq | with_reducible apply Blk.other | with_reducible apply Blk.alloc | with_reducible apply Blk.drew | (simp; done) | (simp; omega))) hb
  have p1 : Below w.heap.size w w1 := (by repeat' (first | with_reducible exact Below.refl _ _ | with_reducible assumption | with_reducible refine bel_drew ?_ | with_reducible refine bel_alloc ?_ _ | with_reducible refine bel_set ?_ ?_ _ | with_reducible refine bel_call ?_ (by assumption) | (dsimp only; omega) | (simp; done) | (simp; omega)))
  clear hb
  have q0c0 : w1.cell? ⟨w.heap.size, 0, none⟩ = some (.int .i64 12) := q0.cell 0; have q0c1 : w1.cell? ⟨w.heap.size, 1, none⟩ = some (.int .i64 n) := q0.cell 1; have q0c2 : w1.cell? ⟨w.heap.size, 2, none⟩ = some (.float .f64 y) := q0.cell 2; have q0z := q0.lt
  have q1c0 : w1.cell? ⟨(w.heap.size + 1), 0, none⟩ = some (.int .u64 k) := q1.cell 0; have q1c1 : w1.cell? ⟨(w.heap.size + 1), 1, none⟩ = some (.float .f64 x) := q1.cell 1; have q1z := q1.lt
  have q2c0 : w1.cell? ⟨(w.heap.size + 1 + 1), 0, none⟩ = some (.int .u64 0) := q2.cell 0; have q2c1 : w1.cell? ⟨(w.heap.size + 1 + 1), 1, none⟩ = some (.float .f64 0) := q2.cell 1; have q2z := q2.lt
  have q2f0 := q2.free 0
  have q2f1 := q2.free 1
  go_wp2_with fail
  refine (C2.out _).mono ?_
  rintro e v ⟨rfl, rfl⟩
  go_wp2_with fail
  refine (C4.out _).mono ?_
  rintro e v ⟨rfl, rfl⟩
  go_wp2_with fail
  refine (C3.out _).mono ?_
  rintro e v ⟨rfl, rfl⟩
  go_wp2_with fail
  refine ret_cell_tmp [.int .u64 (k % 4611686018427387904 * 4 + sd), .float .f64 c] Try.results72 rfl (Try.isAgg66 _) (Try.sizeOf66 _) (t := 66) ?_ rfl ?_; next => (exact (by repeat' (first | with_reducible assumption | (show (_ : List Value) = _; rfl) | with_reducible exact Blk.new _ _ rfl | (with_reducible refine Blk.new _ _ ?_; simp; done) | with_reducible apply Blk.set_eq | with_reducible apply Blk.other | with_reducible apply Blk.alloc | with_reducible apply Blk.drew | (simp; done) | (simp; omega))))
  exact ⟨rfl, (by repeat' (first | with_reducible exact Below.refl _ _ | with_reducible assumption | with_reducible refine bel_drew ?_ | with_reducible refine bel_alloc ?_ _ | with_reducible refine bel_set ?_ ?_ _ | with_reducible refine bel_call ?_ (by assumption) | (dsimp only; omega) | (simp; done) | (simp; omega)))⟩
theorem rone_any (o : Stp) (r : Rc) (w : World) (ho : o.ok) (hok : r.ok) :
    Calls Try.prog 72 #[.agg #[.int .i64 o.kind, .int .i64 o.n, .float .f64 o.x], .agg #[.int .u64 r.key, .float .f64 r.val]] w fun e w' => e = .returned (.tuple #[.agg #[.int .u64 (one o r).1.key, .float .f64 (one o r).1.val], .int .i64 (one o r).2]) ∧ Below w.heap.size w w' := by
  cases hs : isStp o with
  | false => exact rone_no o r.key r.val w hs
  | true =>
    obtain ⟨kd, n, y⟩ := o
    obtain ⟨k, x⟩ := r
    rcases step_cases kd with rfl | rfl | rfl | rfl | rfl | rfl | rfl | rfl | rfl | rfl | rfl | rfl | ⟨h0, _, _, _, _, _, _, e7, _, _, _, e11, _⟩
    · exact rone7 n y k x w ho hok hs
    · exact rone11 n y k x w ho hok (by unfold isStp at hs; dsimp only at hs; rw [if_neg (show ¬ (11 : Int) = 7 by decide), if_pos rfl] at hs; exact of_decide_eq_true hs)
    · cases hf : flt (canon x) y with
      | true => exact rone1_keep n y k x w ho hok hf
      | false => exact rone1_drop n y k x w ho hok hf
    · cases hf : flt y (canon x) with
      | true => exact rone2_keep n y k x w ho hok hf
      | false => exact rone2_drop n y k x w ho hok hf
    · cases hf : nan (canon x) with
      | false => exact rone3_keep n y k x w ho hok hf
      | true => exact rone3_drop n y k x w ho hok hf
    · exact rone4 n y k x w ho hok
    · exact rone5 n y k x w ho hok
    · exact rone6 n y k x w ho hok
    · exact rone8 n y k x w ho hok
    · rcases Nat.lt_or_ge (Fl.rung (canon x)) (2047 * 2 ^ 52) with hf | hf
      · exact rone9_keep n y k x w ho hok hf
      · exact rone9_trap n y k x w ho hok hf
    · by_cases hf : Fl.whole (canon x) = 0
      · exact rone10_trap n y k x w ho hok hf
      · exact rone10_keep n y k x w ho hok hf
    · exact rone12 n y k x w ho hok
    · unfold isStp at hs
      dsimp only at hs
      rw [if_neg (by simpa using e7), if_neg (by simpa using e11)] at hs
      have := of_decide_eq_true hs
      omega
end Go.Proofs.Ytbckfoldjlgabaa
