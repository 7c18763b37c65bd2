/- WALKS of ops: apply. -/
import Derived.Test.YtbckfoldjlgabaaOpsB
namespace Go.Proofs.Ytbckfoldjlgabaa
open Go.RowKit
open Fl (nan key canon)
@[go_sem] theorem run_store_float {P : Program} {w : World} {a : Addr} {m : Mode} (k : FloatKind) (b : Nat) : (store a (.float k b) m).run P w = stored P w a (.float k b) m := run_store P w a _ m rfl
theorem tmod_pos {a b : Int} (h : 0 ≤ a) : Int.tmod a b = a % b := Int.tmod_eq_emod_of_nonneg h
set_option maxRecDepth 100000 in
set_option maxHeartbeats 4000000 in
theorem apply_any (o : Stp) (k : Int) (x : Nat) (w : World) (ho : o.ok) (hs : isStp o = true) (h0 : 0 ≤ k) (hx : x < 2 ^ 64) (hf : fate o (canon x) ≠ 3) :
    Calls Try.prog 75 #[.agg #[.int .i64 o.kind, .int .i64 o.n, .float .f64 o.x], .agg #[.int .u64 k, .float .f64 x]] w fun e w' =>
      e = .returned (.tuple #[.agg #[.int .u64 (nkey o k (canon x)), .float .f64 (nval o (canon x))], .bool (decide (fate o (canon x) = 1))]) ∧ Below w.heap.size w w' := by
  have C1 := Lib.hid (fun w => canon_any x w hx)
  have C2 := Lib.hid (fun w => turn_any o (canon x) w ho (Fl.canon_lt hx) (Fl.canon_canon x) hf)
  have C3 := Lib.hid (fun v (hv : v < 2 ^ 64) w => canon_any v w hv)
  have C4 := Lib.hid (fun w => oside_any (canon x) w (Fl.canon_lt hx))
  have hsd := sde_bounds (canon x)
  have hn1 : -9223372036854775808 ≤ o.n := ho.2.2.1
  have hn2 : o.n ≤ 9223372036854775807 := ho.2.2.2.1
  obtain ⟨kd, n, y⟩ := o
  dsimp only at hn1 hn2
  generalize hd : decide (fate ⟨kd, n, y⟩ (canon x) = 1) = d at *
  generalize hv : nval ⟨kd, n, y⟩ (canon x) = nv at *
  unfold isStp at hs
  unfold nkey
  dsimp only at *
  clear ho hx hf hd hv
  generalize sde (canon x) = sd at *
  generalize canon x = c at *
  rcases step_cases kd with rfl | rfl | rfl | rfl | rfl | rfl | rfl | rfl | rfl | rfl | rfl | rfl | ⟨_, _, _, _, _, _, _, _, _, _, _, e11, e12⟩
  case inr.inl =>
    rw [if_neg (by decide), if_pos rfl] at hs
    have hn : 1 ≤ n := of_decide_eq_true hs
    rw [if_pos rfl]
    have hn0 : ¬ n = 0 := by omega
    have ht := tmod_pos (b := n) h0
    clear hs
    go_enter Try.func75, Try.ntmps75
    go_wp2_with fail
    refine (C1.out _).mono ?_
    rintro e v ⟨rfl, rfl⟩
    go_wp2_with fail
    refine (C2.out _).mono ?_
    rintro e w1 ⟨v, rfl, rfl, hl, hb⟩
    have q1 : Blk w1 (w.heap.size + 1) [.int .u64 (k % n), .float .f64 x] 66 := Blk.below (by repeat' (first | with_reducible assumption | (show (_ : List Value) = _; rfl) | with_reducible exact Blk.new _ _ rfl | (with_reducible refine Blk.new _ _ ?_; simp; done) | with_reducible apply Blk.set_eq | with_reducible apply Blk.other | with_reducible apply Blk.alloc | with_reducible apply Blk.drew | (simp; done) | (simp; omega))) hb; have q1c0 : w1.cell? ⟨w.heap.size + 1, 0, none⟩ = some (.int .u64 (k % n)) := q1.cell 0; have q1c1 : w1.cell? ⟨w.heap.size + 1, 1, none⟩ = some (.float .f64 x) := q1.cell 1; have q1f0 : w1.frozen? ⟨w.heap.size + 1, 0, none⟩ = false := q1.free 0; have q1f1 : w1.frozen? ⟨w.heap.size + 1, 1, none⟩ = false := q1.free 1; have q1z := q1.lt
    have q2 : Blk w1 (w.heap.size + 1 + 1) [.int .u64 0, .float .f64 0] 66 := Blk.below (by repeat' (first | with_reducible assumption | (show (_ : List Value) = _; rfl) | with_reducible exact Blk.new _ _ rfl | (with_reducible refine Blk.new _ _ ?_; simp; done) | with_reducible apply Blk.set_eq | with_reducible apply Blk.other | with_reducible apply Blk.alloc | with_reducible apply Blk.drew | (simp; done) | (simp; omega))) hb; have q2c0 : w1.cell? ⟨w.heap.size + 1 + 1, 0, none⟩ = some (.int .u64 0) := q2.cell 0; have q2c1 : w1.cell? ⟨w.heap.size + 1 + 1, 1, none⟩ = some (.float .f64 0) := q2.cell 1; have q2f0 : w1.frozen? ⟨w.heap.size + 1 + 1, 0, none⟩ = false := q2.free 0; have q2f1 : w1.frozen? ⟨w.heap.size + 1 + 1, 1, none⟩ = false := q2.free 1; have q2z := q2.lt
    have p1 : Below w.heap.size w w1 := (by repeat' (first | with_reducible exact Below.refl _ _ | with_reducible assumption | with_reducible refine bel_drew ?_ | with_reducible refine bel_alloc ?_ _ | with_reducible refine bel_set ?_ ?_ _ | with_reducible refine bel_call ?_ (by assumption) | (dsimp only; omega) | (simp; done) | (simp; omega)))
    clear hb
    go_wp2_with fail
    refine (C3.out _ hl _).mono ?_
    rintro e w2 ⟨rfl, rfl⟩
    go_wp2_with fail
    refine ret_cell_tmp [.int .u64 (k % n), .float .f64 (canon v)] Try.results75 rfl (Try.isAgg66 _) (Try.sizeOf66 _) (t := 66) ?_ rfl ?_; next => (refine Blk.set_eq (Blk.set_eq (q2.other ?_ _) rfl) rfl; simp)
    exact ⟨rfl, (by repeat' (first | with_reducible exact Below.refl _ _ | with_reducible assumption | with_reducible refine bel_drew ?_ | with_reducible refine bel_alloc ?_ _ | with_reducible refine bel_set ?_ ?_ _ | with_reducible refine bel_call ?_ (by assumption) | (dsimp only; omega) | (simp; done) | (simp; omega)))⟩
  case inr.inr.inr.inr.inr.inr.inr.inr.inr.inr.inr.inl =>
    rw [if_neg (by decide), if_pos rfl]
    have ht := tmod_pos (b := 4611686018427387904) h0
    have hw1 : IntKind.u64.wrap (k % 4611686018427387904 * 4) = k % 4611686018427387904 * 4 := by rw [IntKind.wrap_u64]; omega
    have hw2 : IntKind.u64.wrap (k % 4611686018427387904 * 4 + sd) = k % 4611686018427387904 * 4 + sd := by rw [IntKind.wrap_u64]; omega
    clear hs hsd
    go_enter Try.func75, Try.ntmps75
    go_wp2_with fail
    refine (C1.out _).mono ?_
    rintro e v ⟨rfl, rfl⟩
    go_wp2_with fail
    go_region_with (go_at_call 87; refine (C4.out _).mono ?_; rintro e v ⟨rfl, rfl⟩)
    all_goals
      go_wp2_with fail
      clear ht hw1 hw2
      refine (C2.out _).mono ?_
      rintro e w1 ⟨v, rfl, rfl, hl, hb⟩
      have q1 : Blk w1 (w.heap.size + 1) [.int .u64 (k % 4611686018427387904 * 4 + sd), .float .f64 x] 66 := Blk.below (by repeat' (first | with_reducible assumption | (show (_ : List Value) = _; rfl) | with_reducible exact Blk.new _ _ rfl | (with_reducible refine Blk.new _ _ ?_; simp; done) | with_reducible apply Blk.set_eq | with_reducible apply Blk.other | with_reducible apply Blk.alloc | with_reducible apply Blk.drew | (simp; done) | (simp; omega))) hb; have q1c0 : w1.cell? ⟨w.heap.size + 1, 0, none⟩ = some (.int .u64 (k % 4611686018427387904 * 4 + sd)) := q1.cell 0; have q1c1 : w1.cell? ⟨w.heap.size + 1, 1, none⟩ = some (.float .f64 x) := q1.cell 1; have q1f0 : w1.frozen? ⟨w.heap.size + 1, 0, none⟩ = false := q1.free 0; have q1f1 : w1.frozen? ⟨w.heap.size + 1, 1, none⟩ = false := q1.free 1; have q1z := q1.lt
      have q2 : Blk w1 (w.heap.size + 1 + 1) [.int .u64 0, .float .f64 0] 66 := Blk.below (by repeat' (first | with_reducible assumption | (show (_ : List Value) = _; rfl) | with_reducible exact Blk.new _ _ rfl | (with_reducible refine Blk.new _ _ ?_; simp; done) | with_reducible apply Blk.set_eq | with_reducible apply Blk.other | with_reducible apply Blk.alloc | with_reducible apply Blk.drew | (simp; done) | (simp; omega))) hb; have q2c0 : w1.cell? ⟨w.heap.size + 1 + 1, 0, none⟩ = some (.int .u64 0) := q2.cell 0; have q2c1 : w1.cell? ⟨w.heap.size + 1 + 1, 1, none⟩ = some (.float .f64 0) := q2.cell 1; have q2f0 : w1.frozen? ⟨w.heap.size + 1 + 1, 0, none⟩ = false := q2.free 0; have q2f1 : w1.frozen? ⟨w.heap.size + 1 + 1, 1, none⟩ = false := q2.free 1; have q2z := q2.lt
      have p1 : Below w.heap.size w w1 := (by repeat' (first | with_reducible exact Below.refl _ _ | with_reducible assumption | with_reducible refine bel_drew ?_ | with_reducible refine bel_alloc ?_ _ | with_reducible refine bel_set ?_ ?_ _ | with_reducible refine bel_call ?_ (by assumption) | (dsimp only; omega) | (simp; done) | (simp; omega)))
      clear hb
      go_wp2_with fail
      refine (C3.out _ hl _).mono ?_
      rintro e w2 ⟨rfl, rfl⟩
      go_wp2_with fail
      refine ret_cell_tmp [.int .u64 (k % 4611686018427387904 * 4 + sd), .float .f64 (canon v)] Try.results75 rfl (Try.isAgg66 _) (Try.sizeOf66 _) (t := 66) ?_ rfl ?_; next => (refine Blk.set_eq (Blk.set_eq (q2.other ?_ _) rfl) rfl; simp)
      exact ⟨rfl, (by repeat' (first | with_reducible exact Below.refl _ _ | with_reducible assumption | with_reducible refine bel_drew ?_ | with_reducible refine bel_alloc ?_ _ | with_reducible refine bel_set ?_ ?_ _ | with_reducible refine bel_call ?_ (by assumption) | (dsimp only; omega) | (simp; done) | (simp; omega)))⟩
  all_goals
    first
      | rw [if_neg (by decide), if_neg (by decide)]
      | rw [if_neg (by simpa using e11), if_neg (by simpa using e12)]
    clear hs hsd
    go_enter Try.func75, Try.ntmps75
    go_wp2_with fail
    refine (C1.out _).mono ?_
    rintro e v ⟨rfl, rfl⟩
    go_wp2_with fail
    refine (C2.out _).mono ?_
    rintro e w1 ⟨v, rfl, rfl, hl, hb⟩
    have q1 : Blk w1 (w.heap.size + 1) [.int .u64 (k), .float .f64 x] 66 := Blk.below (by repeat' (first | with_reducible assumption | (show (_ : List Value) = _; rfl) | with_reducible exact Blk.new _ _ rfl | (with_reducible refine Blk.new _ _ ?_; simp; done) | with_reducible apply Blk.set_eq | with_reducible apply Blk.other | with_reducible apply Blk.alloc | with_reducible apply Blk.drew | (simp; done) | (simp; omega))) hb; have q1c0 : w1.cell? ⟨w.heap.size + 1, 0, none⟩ = some (.int .u64 (k)) := q1.cell 0; have q1c1 : w1.cell? ⟨w.heap.size + 1, 1, none⟩ = some (.float .f64 x) := q1.cell 1; have q1f0 : w1.frozen? ⟨w.heap.size + 1, 0, none⟩ = false := q1.free 0; have q1f1 : w1.frozen? ⟨w.heap.size + 1, 1, none⟩ = false := q1.free 1; have q1z := q1.lt
    have q2 : Blk w1 (w.heap.size + 1 + 1) [.int .u64 0, .float .f64 0] 66 := Blk.below (by repeat' (first | with_reducible assumption | (show (_ : List Value) = _; rfl) | with_reducible exact Blk.new _ _ rfl | (with_reducible refine Blk.new _ _ ?_; simp; done) | with_reducible apply Blk.set_eq | with_reducible apply Blk.other | with_reducible apply Blk.alloc | with_reducible apply Blk.drew | (simp; done) | (simp; omega))) hb; have q2c0 : w1.cell? ⟨w.heap.size + 1 + 1, 0, none⟩ = some (.int .u64 0) := q2.cell 0; have q2c1 : w1.cell? ⟨w.heap.size + 1 + 1, 1, none⟩ = some (.float .f64 0) := q2.cell 1; have q2f0 : w1.frozen? ⟨w.heap.size + 1 + 1, 0, none⟩ = false := q2.free 0; have q2f1 : w1.frozen? ⟨w.heap.size + 1 + 1, 1, none⟩ = false := q2.free 1; have q2z := q2.lt
    have p1 : Below w.heap.size w w1 := (by repeat' (first | with_reducible exact Below.refl _ _ | with_reducible assumption | with_reducible refine bel_drew ?_ | with_reducible refine bel_alloc ?_ _ | with_reducible refine bel_set ?_ ?_ _ | with_reducible refine bel_call ?_ (by assumption) | (dsimp only; omega) | (simp; done) | (simp; omega)))
    clear hb
    go_wp2_with fail
    refine (C3.out _ hl _).mono ?_
    rintro e w2 ⟨rfl, rfl⟩
    go_wp2_with fail
    refine ret_cell_tmp [.int .u64 (k), .float .f64 (canon v)] Try.results75 rfl (Try.isAgg66 _) (Try.sizeOf66 _) (t := 66) ?_ rfl ?_; next => (refine Blk.set_eq (Blk.set_eq (q2.other ?_ _) rfl) rfl; simp)
    exact ⟨rfl, (by repeat' (first | with_reducible exact Below.refl _ _ | with_reducible assumption | with_reducible refine bel_drew ?_ | with_reducible refine bel_alloc ?_ _ | with_reducible refine bel_set ?_ ?_ _ | with_reducible refine bel_call ?_ (by assumption) | (dsimp only; omega) | (simp; done) | (simp; omega)))⟩
theorem fate_kind {o : Stp} {x : Nat} (hf : fate o x = 3) : o.kind = 9 ∨ o.kind = 10 := by
  unfold fate at hf
  by_cases a1 : o.kind = 1
  · rw [if_pos a1] at hf; split at hf <;> cases hf
  rw [if_neg a1] at hf
  by_cases a2 : o.kind = 2
  · rw [if_pos a2] at hf; split at hf <;> cases hf
  rw [if_neg a2] at hf
  by_cases a3 : o.kind = 3
  · rw [if_pos a3] at hf; split at hf <;> cases hf
  rw [if_neg a3] at hf
  by_cases a9 : o.kind = 9
  · exact .inl a9
  rw [if_neg a9] at hf
  by_cases a10 : o.kind = 10
  · exact .inr a10
  rw [if_neg a10] at hf
  cases hf
set_option maxRecDepth 100000 in
set_option maxHeartbeats 1000000 in
theorem apply_trap (o : Stp) (k : Int) (x : Nat) (w : World) (hx : x < 2 ^ 64) (hf : fate o (canon x) = 3) :
    Calls Try.prog 75 #[.agg #[.int .i64 o.kind, .int .i64 o.n, .float .f64 o.x], .agg #[.int .u64 k, .float .f64 x]] w (Traps w) := by
  have C1 := Lib.hid (fun w => canon_any x w hx)
  have C2 := Lib.hid (fun w => turn_trap o (canon x) w (Fl.canon_lt hx) hf)
  have hk := fate_kind hf
  obtain ⟨kd, n, y⟩ := o
  dsimp only at *
  clear hf hx
  generalize canon x = c at *
  unfold Traps at *
  rcases hk with rfl | rfl
  all_goals
    go_enter Try.func75, Try.ntmps75
    go_wp2_with fail
    refine (C1.out _).mono ?_
    rintro e v ⟨rfl, rfl⟩
    go_wp2_with fail
    refine (C2.out _).mono ?_
    rintro e w1 ⟨⟨u, pv, rfl⟩, hb⟩
    go_wp2_with fail
    exact ⟨rfl, ⟨_, _, rfl⟩, (by repeat' (first | with_reducible exact Below.refl _ _ | with_reducible assumption | with_reducible refine bel_drew ?_ | with_reducible refine bel_alloc ?_ _ | with_reducible refine bel_set ?_ ?_ _ | with_reducible refine bel_call ?_ (by assumption) | (dsimp only; omega) | (simp; done) | (simp; omega)))⟩
end Go.Proofs.Ytbckfoldjlgabaa
