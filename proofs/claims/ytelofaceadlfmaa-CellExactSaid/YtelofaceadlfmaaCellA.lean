/- WALKS of cell: what it computes. -/
import Derived.Test.YtelofaceadlfmaaCellPure
import Derived.Test.YtelofaceadlfmaaAggB
import Derived.Laws.StructEq
namespace Go.Proofs.Ytelofaceadlfmaa
open Go.RowKit
open Fl (known fit merge V Cl applyC applyE revertC resolveC emptyC fitC)

theorem hold24 : Try.prog.stoodInHeld 24 = false := by kernel_rfl
theorem hold26 : Try.prog.stoodInHeld 26 = false := by kernel_rfl
theorem flds24 : Try.prog.underlying 24 = some (.struct (Try.prog.fieldsOf 24)) := by kernel_rfl
theorem flds26 : Try.prog.underlying 26 = some (.struct (Try.prog.fieldsOf 26)) := by kernel_rfl
set_option maxHeartbeats 400000 in
theorem eq24 (d : Nat) (a c : Bool) (b e : Int) (w : World) : (Op.equalIn (d + 1 + 1) 24 (.agg #[.bool a, .int .u64 b]) (.agg #[.bool c, .int .u64 e])).run Try.prog w = .ok (a == c && b == e) w := by
  have u1 := Try.underlying4
  have u2 := Try.underlying22
  rw [run_equalIn_agg w (d + 1) 24 _ _ flds24 hold24]
  simp only [Program.fieldsOf, Try.underlying24]
  go_simp
  cases a <;> cases c <;> by_cases h2 : b = e <;> simp [h2]
@[go_sem] theorem eq24' (a c : Bool) (b e : Int) (w : World) : (Op.equalIn 10000 24 (.agg #[.bool a, .int .u64 b]) (.agg #[.bool c, .int .u64 e])).run Try.prog w = .ok (a == c && b == e) w := eq24 9998 a c b e w
set_option maxHeartbeats 400000 in
@[go_sem] theorem eq26 (k k' : Int) (a c a' c' : Bool) (b e b' e' : Int) (n n' : Int) (w : World) :
    (Op.equalIn 10000 26 (.agg #[.int .u64 k, .bool a, .int .u64 b, .bool c, .int .u64 e, .int .i64 n]) (.agg #[.int .u64 k', .bool a', .int .u64 b', .bool c', .int .u64 e', .int .i64 n'])).run Try.prog w =
      .ok (k == k' && (a == a' && b == b') && (c == c' && e == e') && n == n') w := by
  have u1 := Try.underlying3
  have u2 := Try.underlying22
  have h1 := eq24 9997
  rw [show (10000 : Nat) = 9999 + 1 from rfl, run_equalIn_agg w 9999 26 _ _ flds26 hold26]
  simp only [Program.fieldsOf, Try.underlying26]
  go_simp
  clear u1 u2 h1
  by_cases p1 : k = k' <;> by_cases p2 : a = a' <;> by_cases p3 : b = b' <;> by_cases p4 : c = c' <;> by_cases p5 : e = e' <;> by_cases p6 : n = n' <;> simp [p1, p2, p3, p4, p5, p6]

theorem eqVB (x y : V) : (x.has == y.has && (x.bits : Int) == y.bits) = decide (x = y) := by
  obtain ⟨a, b⟩ := x
  obtain ⟨c, d⟩ := y
  by_cases h1 : a = c <;> by_cases h2 : b = d <;> simp [h1, h2, Int.natCast_inj]

set_option maxHeartbeats 400000 in
theorem revert_any (c : Cl) (b : Int) (w : World) (hn : -9223372036854775808 ≤ c.batch ∧ c.batch ≤ 9223372036854775807) :
    Calls Try.prog 11 #[.agg #[.int .u64 c.key, .bool c.prev.has, .int .u64 c.prev.bits, .bool c.cur.has, .int .u64 c.cur.bits, .int .i64 c.batch], .int .i64 b] w
      fun e w' => e = .returned (.agg #[.int .u64 (revertC c b).key, .bool (revertC c b).prev.has, .int .u64 (revertC c b).prev.bits, .bool (revertC c b).cur.has, .int .u64 (revertC c b).cur.bits, .int .i64 (revertC c b).batch]) ∧ Below w.heap.size w w' := by
  unfold revertC
  obtain ⟨key, ⟨ph, pb⟩, ⟨ch, cb⟩, n⟩ := c
  dsimp only at *
  obtain ⟨n1, n2⟩ := hn
  by_cases h : b = n
  · subst h
    by_cases h1 : 1 ≤ b
    · rw [if_pos ⟨rfl, h1⟩]
      go_enter Try.func11, Try.ntmps11
      go_wp2
      refine bodyPost_ret (v := .agg #[.int .u64 key, .bool ph, .int .u64 pb, .bool ph, .int .u64 pb, .int .i64 (b - 1)]) (by simp only [results, Try.results11]; go_simp) rfl ?_
      exact ⟨rfl, (by repeat' (first | with_reducible exact Below.refl _ _ | with_reducible assumption | with_reducible refine bel_drew ?_ | with_reducible refine bel_alloc ?_ _ | with_reducible refine bel_set ?_ ?_ _ | with_reducible refine bel_call ?_ (by assumption) | (dsimp only; omega) | (simp; done) | (simp; omega)))⟩
    · rw [if_neg (fun x => h1 x.2)]
      go_enter Try.func11, Try.ntmps11
      go_wp2
      refine bodyPost_ret (v := .agg #[.int .u64 key, .bool ph, .int .u64 pb, .bool ch, .int .u64 cb, .int .i64 b]) (by simp only [results, Try.results11]; go_simp) rfl ?_
      exact ⟨rfl, (by repeat' (first | with_reducible exact Below.refl _ _ | with_reducible assumption | with_reducible refine bel_drew ?_ | with_reducible refine bel_alloc ?_ _ | with_reducible refine bel_set ?_ ?_ _ | with_reducible refine bel_call ?_ (by assumption) | (dsimp only; omega) | (simp; done) | (simp; omega)))⟩
  · rw [if_neg (fun x => h x.1)]
    have hb : (b == n) = false := by simpa using h
    clear h
    go_enter Try.func11, Try.ntmps11
    go_wp2
    refine bodyPost_ret (v := .agg #[.int .u64 key, .bool ph, .int .u64 pb, .bool ch, .int .u64 cb, .int .i64 n]) (by simp only [results, Try.results11]; go_simp) rfl ?_
    exact ⟨rfl, (by repeat' (first | with_reducible exact Below.refl _ _ | with_reducible assumption | with_reducible refine bel_drew ?_ | with_reducible refine bel_alloc ?_ _ | with_reducible refine bel_set ?_ ?_ _ | with_reducible refine bel_call ?_ (by assumption) | (dsimp only; omega) | (simp; done) | (simp; omega)))⟩

set_option maxHeartbeats 400000 in
theorem resolve_any (c : Cl) (m : Int) (w : World) :
    Calls Try.prog 17 #[.agg #[.int .u64 c.key, .bool c.prev.has, .int .u64 c.prev.bits, .bool c.cur.has, .int .u64 c.cur.bits, .int .i64 c.batch], .int .i64 m] w
      fun e w' => e = .returned (.agg #[.bool (resolveC c m).has, .int .u64 (resolveC c m).bits]) ∧ Below w.heap.size w w' := by
  unfold resolveC
  obtain ⟨key, ⟨ph, pb⟩, ⟨ch, cb⟩, n⟩ := c
  dsimp only at *
  by_cases h : m < n
  · rw [if_pos h]
    go_enter Try.func17, Try.ntmps17
    go_wp2
    refine bodyPost_ret (v := .agg #[.bool ph, .int .u64 pb]) (by simp only [results, Try.results17]; go_simp) rfl ?_
    exact ⟨rfl, (by repeat' (first | with_reducible exact Below.refl _ _ | with_reducible assumption | with_reducible refine bel_drew ?_ | with_reducible refine bel_alloc ?_ _ | with_reducible refine bel_set ?_ ?_ _ | with_reducible refine bel_call ?_ (by assumption) | (dsimp only; omega) | (simp; done) | (simp; omega)))⟩
  · rw [if_neg h]
    go_enter Try.func17, Try.ntmps17
    go_wp2
    refine bodyPost_ret (v := .agg #[.bool ch, .int .u64 cb]) (by simp only [results, Try.results17]; go_simp) rfl ?_
    exact ⟨rfl, (by repeat' (first | with_reducible exact Below.refl _ _ | with_reducible assumption | with_reducible refine bel_drew ?_ | with_reducible refine bel_alloc ?_ _ | with_reducible refine bel_set ?_ ?_ _ | with_reducible refine bel_call ?_ (by assumption) | (dsimp only; omega) | (simp; done) | (simp; omega)))⟩

set_option maxHeartbeats 400000 in
theorem empty_any (c : Cl) (w : World) :
    Calls Try.prog 13 #[.agg #[.int .u64 c.key, .bool c.prev.has, .int .u64 c.prev.bits, .bool c.cur.has, .int .u64 c.cur.bits, .int .i64 c.batch]] w
      fun e w' => e = .returned (.bool (emptyC c)) ∧ Below w.heap.size w w' := by
  unfold emptyC
  obtain ⟨key, ⟨ph, pb⟩, ⟨ch, cb⟩, n⟩ := c
  dsimp only at *
  cases ph <;> cases ch
  all_goals
    go_enter Try.func13, Try.ntmps13
    go_wp2
    go_ret
    exact ⟨rfl, (by repeat' (first | with_reducible exact Below.refl _ _ | with_reducible assumption | with_reducible refine bel_drew ?_ | with_reducible refine bel_alloc ?_ _ | with_reducible refine bel_set ?_ ?_ _ | with_reducible refine bel_call ?_ (by assumption) | (dsimp only; omega) | (simp; done) | (simp; omega)))⟩

set_option maxHeartbeats 400000 in
theorem apply_arg (k : Int) (key : Nat) (prev cur : V) (n b : Int) (p : V) (w : World) (h : known k = false ∨ b < 1) :
    Calls Try.prog 9 #[.int .i64 k, .agg #[.int .u64 key, .bool prev.has, .int .u64 prev.bits, .bool cur.has, .int .u64 cur.bits, .int .i64 n], .int .i64 b, .agg #[.bool p.has, .int .u64 p.bits]] w
      fun e w' => e = .returned (.tuple #[.agg #[.int .u64 0, .bool false, .int .u64 0, .bool false, .int .u64 0, .int .i64 0], .int .i64 1]) ∧ Below w.heap.size w w' := by
  have c1 := known_any k
  cases hk : known k
  · rw [hk] at c1
    have C1 := Lib.hid c1
    clear c1 hk h
    go_enter Try.func9, Try.ntmps9
    go_wp2_with (go_at_call 20; refine (C1.out _).mono ?_; rintro e w' ⟨rfl, rfl⟩)
    refine ret_cell_tmp [.int .u64 0, .bool false, .int .u64 0, .bool false, .int .u64 0, .int .i64 0] Try.results9 rfl (Try.isAgg26 _) (Try.sizeOf26 _) (t := 26) (by repeat' (first | with_reducible assumption | (show (_ : List Value) = _; rfl) | with_reducible exact Blk.new _ _ rfl | (with_reducible refine Blk.new _ _ ?_; simp; done) | with_reducible apply Blk.set_eq | with_reducible apply Blk.other | with_reducible apply Blk.alloc | (simp; done) | (simp; omega))) rfl ?_
    exact ⟨rfl, (by repeat' (first | with_reducible exact Below.refl _ _ | with_reducible assumption | with_reducible refine bel_drew ?_ | with_reducible refine bel_alloc ?_ _ | with_reducible refine bel_set ?_ ?_ _ | with_reducible refine bel_call ?_ (by assumption) | (dsimp only; omega) | (simp; done) | (simp; omega)))⟩
  · have h1 : b < 1 := by rw [hk] at h; simpa using h
    rw [hk] at c1
    have C1 := Lib.hid c1
    clear c1 hk h
    go_enter Try.func9, Try.ntmps9
    go_wp2_with (go_at_call 20; refine (C1.out _).mono ?_; rintro e w' ⟨rfl, rfl⟩)
    refine ret_cell_tmp [.int .u64 0, .bool false, .int .u64 0, .bool false, .int .u64 0, .int .i64 0] Try.results9 rfl (Try.isAgg26 _) (Try.sizeOf26 _) (t := 26) (by repeat' (first | with_reducible assumption | (show (_ : List Value) = _; rfl) | with_reducible exact Blk.new _ _ rfl | (with_reducible refine Blk.new _ _ ?_; simp; done) | with_reducible apply Blk.set_eq | with_reducible apply Blk.other | with_reducible apply Blk.alloc | (simp; done) | (simp; omega))) rfl ?_
    exact ⟨rfl, (by repeat' (first | with_reducible exact Below.refl _ _ | with_reducible assumption | with_reducible refine bel_drew ?_ | with_reducible refine bel_alloc ?_ _ | with_reducible refine bel_set ?_ ?_ _ | with_reducible refine bel_call ?_ (by assumption) | (dsimp only; omega) | (simp; done) | (simp; omega)))⟩
set_option maxHeartbeats 400000 in
theorem apply_over (k : Int) (key : Nat) (prev cur : V) (n b : Int) (p : V) (w : World) (hk : known k = true) (h1 : ¬ b < 1) (h2 : b < n) :
    Calls Try.prog 9 #[.int .i64 k, .agg #[.int .u64 key, .bool prev.has, .int .u64 prev.bits, .bool cur.has, .int .u64 cur.bits, .int .i64 n], .int .i64 b, .agg #[.bool p.has, .int .u64 p.bits]] w
      fun e w' => e = .returned (.tuple #[.agg #[.int .u64 0, .bool false, .int .u64 0, .bool false, .int .u64 0, .int .i64 0], .int .i64 100]) ∧ Below w.heap.size w w' := by
  have c1 := known_any k
  rw [hk] at c1
  have C1 := Lib.hid c1
  clear c1 hk
  go_enter Try.func9, Try.ntmps9
  go_wp2_with (go_at_call 20; refine (C1.out _).mono ?_; rintro e w' ⟨rfl, rfl⟩)
  refine ret_cell_tmp [.int .u64 0, .bool false, .int .u64 0, .bool false, .int .u64 0, .int .i64 0] Try.results9 rfl (Try.isAgg26 _) (Try.sizeOf26 _) (t := 26) (by repeat' (first | with_reducible assumption | (show (_ : List Value) = _; rfl) | with_reducible exact Blk.new _ _ rfl | (with_reducible refine Blk.new _ _ ?_; simp; done) | with_reducible apply Blk.set_eq | with_reducible apply Blk.other | with_reducible apply Blk.alloc | (simp; done) | (simp; omega))) rfl ?_
  exact ⟨rfl, (by repeat' (first | with_reducible exact Below.refl _ _ | with_reducible assumption | with_reducible refine bel_drew ?_ | with_reducible refine bel_alloc ?_ _ | with_reducible refine bel_set ?_ ?_ _ | with_reducible refine bel_call ?_ (by assumption) | (dsimp only; omega) | (simp; done) | (simp; omega)))⟩
set_option maxHeartbeats 1000000 in
theorem apply_again (k : Int) (key : Nat) (prev cur : V) (n b : Int) (p : V) (w : World) (hk : known k = true) (h1 : ¬ b < 1) (h2 : b = n) (ho : prev.ok) (hp : p.ok) :
    Calls Try.prog 9 #[.int .i64 k, .agg #[.int .u64 key, .bool prev.has, .int .u64 prev.bits, .bool cur.has, .int .u64 cur.bits, .int .i64 n], .int .i64 b, .agg #[.bool p.has, .int .u64 p.bits]] w
      fun e w' => e = .returned (.tuple #[.agg #[.int .u64 key, .bool prev.has, .int .u64 prev.bits, .bool (merge k prev p).has, .int .u64 (merge k prev p).bits, .int .i64 b], .int .i64 0]) ∧ Below w.heap.size w w' := by
  have c1 := known_any k
  rw [hk] at c1
  have C1 := Lib.hid c1
  have c2 := fun w => merge_any k prev p w ho hp
  have C2 := Lib.hid c2
  clear c1 c2 hk ho hp
  subst h2
  go_enter Try.func9, Try.ntmps9
  go_wp2_with (go_at_call 20; refine (C1.out _).mono ?_; rintro e w' ⟨rfl, rfl⟩)
  refine (C2.out _).mono ?_
  rintro e w1 ⟨rfl, hb1⟩
  have qa : Blk w1 (w.heap.size) [.int .u64 key, .bool prev.has, .int .u64 prev.bits, .bool cur.has, .int .u64 cur.bits, .int .i64 b] 26 := (((Blk.new _ _ rfl).alloc _).alloc _).below hb1; have qac0 : w1.cell? ⟨w.heap.size, 0, none⟩ = some (.int .u64 key) := qa.cell 0; have qac1 : w1.cell? ⟨w.heap.size, 1, none⟩ = some (.bool prev.has) := qa.cell 1; have qac2 : w1.cell? ⟨w.heap.size, 2, none⟩ = some (.int .u64 prev.bits) := qa.cell 2; have qac3 : w1.cell? ⟨w.heap.size, 3, none⟩ = some (.bool cur.has) := qa.cell 3; have qac4 : w1.cell? ⟨w.heap.size, 4, none⟩ = some (.int .u64 cur.bits) := qa.cell 4; have qac5 : w1.cell? ⟨w.heap.size, 5, none⟩ = some (.int .i64 b) := qa.cell 5; have qaf0 : w1.frozen? ⟨w.heap.size, 0, none⟩ = false := qa.free 0; have qaf1 : w1.frozen? ⟨w.heap.size, 1, none⟩ = false := qa.free 1; have qaf2 : w1.frozen? ⟨w.heap.size, 2, none⟩ = false := qa.free 2; have qaf3 : w1.frozen? ⟨w.heap.size, 3, none⟩ = false := qa.free 3; have qaf4 : w1.frozen? ⟨w.heap.size, 4, none⟩ = false := qa.free 4; have qaf5 : w1.frozen? ⟨w.heap.size, 5, none⟩ = false := qa.free 5; have qaz := qa.lt
  have qb : Blk w1 (w.heap.size + 1 + 1) [.int .u64 0, .bool false, .int .u64 0, .bool false, .int .u64 0, .int .i64 0] 26 := (Blk.new _ _ (by simp)).below hb1; have qbc0 : w1.cell? ⟨w.heap.size + 1 + 1, 0, none⟩ = some (.int .u64 0) := qb.cell 0; have qbc1 : w1.cell? ⟨w.heap.size + 1 + 1, 1, none⟩ = some (.bool false) := qb.cell 1; have qbc2 : w1.cell? ⟨w.heap.size + 1 + 1, 2, none⟩ = some (.int .u64 0) := qb.cell 2; have qbc3 : w1.cell? ⟨w.heap.size + 1 + 1, 3, none⟩ = some (.bool false) := qb.cell 3; have qbc4 : w1.cell? ⟨w.heap.size + 1 + 1, 4, none⟩ = some (.int .u64 0) := qb.cell 4; have qbc5 : w1.cell? ⟨w.heap.size + 1 + 1, 5, none⟩ = some (.int .i64 0) := qb.cell 5; have qbf0 : w1.frozen? ⟨w.heap.size + 1 + 1, 0, none⟩ = false := qb.free 0; have qbf1 : w1.frozen? ⟨w.heap.size + 1 + 1, 1, none⟩ = false := qb.free 1; have qbf2 : w1.frozen? ⟨w.heap.size + 1 + 1, 2, none⟩ = false := qb.free 2; have qbf3 : w1.frozen? ⟨w.heap.size + 1 + 1, 3, none⟩ = false := qb.free 3; have qbf4 : w1.frozen? ⟨w.heap.size + 1 + 1, 4, none⟩ = false := qb.free 4; have qbf5 : w1.frozen? ⟨w.heap.size + 1 + 1, 5, none⟩ = false := qb.free 5; have qbz := qb.lt
  have Qa := Lib.hid qa
  have Qb := Lib.hid qb
  clear qa qb C1 C2
  go_wp2_with fail
  have qa := Qa.out
  have qb := Qb.out
  refine ret_cell_tmp [.int .u64 key, .bool prev.has, .int .u64 prev.bits, .bool (merge k prev p).has, .int .u64 (merge k prev p).bits, .int .i64 b] Try.results9 rfl (Try.isAgg26 _) (Try.sizeOf26 _) (t := 26) (by repeat' (first | with_reducible assumption | (show (_ : List Value) = _; rfl) | with_reducible exact Blk.new _ _ rfl | (with_reducible refine Blk.new _ _ ?_; simp; done) | with_reducible apply Blk.set_eq | with_reducible apply Blk.other | with_reducible apply Blk.alloc | (simp; done) | (simp; omega))) rfl ?_
  exact ⟨rfl, (by repeat' (first | with_reducible exact Below.refl _ _ | with_reducible assumption | with_reducible refine bel_drew ?_ | with_reducible refine bel_alloc ?_ _ | with_reducible refine bel_set ?_ ?_ _ | with_reducible refine bel_call ?_ (by assumption) | (dsimp only; omega) | (simp; done) | (simp; omega)))⟩
set_option maxHeartbeats 1000000 in
theorem apply_new (k : Int) (key : Nat) (prev cur : V) (n b : Int) (p : V) (w : World) (hk : known k = true) (h1 : ¬ b < 1) (h2 : n < b) (ho : cur.ok) (hp : p.ok) :
    Calls Try.prog 9 #[.int .i64 k, .agg #[.int .u64 key, .bool prev.has, .int .u64 prev.bits, .bool cur.has, .int .u64 cur.bits, .int .i64 n], .int .i64 b, .agg #[.bool p.has, .int .u64 p.bits]] w
      fun e w' => e = .returned (.tuple #[.agg #[.int .u64 key, .bool cur.has, .int .u64 cur.bits, .bool (merge k cur p).has, .int .u64 (merge k cur p).bits, .int .i64 b], .int .i64 0]) ∧ Below w.heap.size w w' := by
  have c1 := known_any k
  rw [hk] at c1
  have C1 := Lib.hid c1
  have c2 := fun w => merge_any k cur p w ho hp
  have C2 := Lib.hid c2
  clear c1 c2 hk ho hp
  go_enter Try.func9, Try.ntmps9
  go_wp2_with (go_at_call 20; refine (C1.out _).mono ?_; rintro e w' ⟨rfl, rfl⟩)
  refine (C2.out _).mono ?_
  rintro e w1 ⟨rfl, hb1⟩
  have qa : Blk w1 (w.heap.size) [.int .u64 key, .bool cur.has, .int .u64 cur.bits, .bool cur.has, .int .u64 cur.bits, .int .i64 b] 26 := (((Blk.new _ _ rfl).alloc _).alloc _).below hb1; have qac0 : w1.cell? ⟨w.heap.size, 0, none⟩ = some (.int .u64 key) := qa.cell 0; have qac1 : w1.cell? ⟨w.heap.size, 1, none⟩ = some (.bool cur.has) := qa.cell 1; have qac2 : w1.cell? ⟨w.heap.size, 2, none⟩ = some (.int .u64 cur.bits) := qa.cell 2; have qac3 : w1.cell? ⟨w.heap.size, 3, none⟩ = some (.bool cur.has) := qa.cell 3; have qac4 : w1.cell? ⟨w.heap.size, 4, none⟩ = some (.int .u64 cur.bits) := qa.cell 4; have qac5 : w1.cell? ⟨w.heap.size, 5, none⟩ = some (.int .i64 b) := qa.cell 5; have qaf0 : w1.frozen? ⟨w.heap.size, 0, none⟩ = false := qa.free 0; have qaf1 : w1.frozen? ⟨w.heap.size, 1, none⟩ = false := qa.free 1; have qaf2 : w1.frozen? ⟨w.heap.size, 2, none⟩ = false := qa.free 2; have qaf3 : w1.frozen? ⟨w.heap.size, 3, none⟩ = false := qa.free 3; have qaf4 : w1.frozen? ⟨w.heap.size, 4, none⟩ = false := qa.free 4; have qaf5 : w1.frozen? ⟨w.heap.size, 5, none⟩ = false := qa.free 5; have qaz := qa.lt
  have qb : Blk w1 (w.heap.size + 1 + 1) [.int .u64 0, .bool false, .int .u64 0, .bool false, .int .u64 0, .int .i64 0] 26 := (Blk.new _ _ (by simp)).below hb1; have qbc0 : w1.cell? ⟨w.heap.size + 1 + 1, 0, none⟩ = some (.int .u64 0) := qb.cell 0; have qbc1 : w1.cell? ⟨w.heap.size + 1 + 1, 1, none⟩ = some (.bool false) := qb.cell 1; have qbc2 : w1.cell? ⟨w.heap.size + 1 + 1, 2, none⟩ = some (.int .u64 0) := qb.cell 2; have qbc3 : w1.cell? ⟨w.heap.size + 1 + 1, 3, none⟩ = some (.bool false) := qb.cell 3; have qbc4 : w1.cell? ⟨w.heap.size + 1 + 1, 4, none⟩ = some (.int .u64 0) := qb.cell 4; have qbc5 : w1.cell? ⟨w.heap.size + 1 + 1, 5, none⟩ = some (.int .i64 0) := qb.cell 5; have qbf0 : w1.frozen? ⟨w.heap.size + 1 + 1, 0, none⟩ = false := qb.free 0; have qbf1 : w1.frozen? ⟨w.heap.size + 1 + 1, 1, none⟩ = false := qb.free 1; have qbf2 : w1.frozen? ⟨w.heap.size + 1 + 1, 2, none⟩ = false := qb.free 2; have qbf3 : w1.frozen? ⟨w.heap.size + 1 + 1, 3, none⟩ = false := qb.free 3; have qbf4 : w1.frozen? ⟨w.heap.size + 1 + 1, 4, none⟩ = false := qb.free 4; have qbf5 : w1.frozen? ⟨w.heap.size + 1 + 1, 5, none⟩ = false := qb.free 5; have qbz := qb.lt
  have Qa := Lib.hid qa
  have Qb := Lib.hid qb
  clear qa qb C1 C2
  go_wp2_with fail
  have qa := Qa.out
  have qb := Qb.out
  refine ret_cell_tmp [.int .u64 key, .bool cur.has, .int .u64 cur.bits, .bool (merge k cur p).has, .int .u64 (merge k cur p).bits, .int .i64 b] Try.results9 rfl (Try.isAgg26 _) (Try.sizeOf26 _) (t := 26) (by repeat' (first | with_reducible assumption | (show (_ : List Value) = _; rfl) | with_reducible exact Blk.new _ _ rfl | (with_reducible refine Blk.new _ _ ?_; simp; done) | with_reducible apply Blk.set_eq | with_reducible apply Blk.other | with_reducible apply Blk.alloc | (simp; done) | (simp; omega))) rfl ?_
  exact ⟨rfl, (by repeat' (first | with_reducible exact Below.refl _ _ | with_reducible assumption | with_reducible refine bel_drew ?_ | with_reducible refine bel_alloc ?_ _ | with_reducible refine bel_set ?_ ?_ _ | with_reducible refine bel_call ?_ (by assumption) | (dsimp only; omega) | (simp; done) | (simp; omega)))⟩
theorem apply_any (k : Int) (c : Cl) (b : Int) (p : V) (w : World) (hc : c.ok) (hp : p.ok) :
    Calls Try.prog 9 #[.int .i64 k, .agg #[.int .u64 c.key, .bool c.prev.has, .int .u64 c.prev.bits, .bool c.cur.has, .int .u64 c.cur.bits, .int .i64 c.batch], .int .i64 b, .agg #[.bool p.has, .int .u64 p.bits]] w
      fun e w' => e = .returned (.tuple #[.agg #[.int .u64 (applyC k c b p).key, .bool (applyC k c b p).prev.has, .int .u64 (applyC k c b p).prev.bits, .bool (applyC k c b p).cur.has, .int .u64 (applyC k c b p).cur.bits, .int .i64 (applyC k c b p).batch], .int .i64 (applyE k c b)]) ∧ Below w.heap.size w w' := by
  by_cases h0 : known k = false ∨ b < 1
  · obtain ⟨e1, e2⟩ := Fl.apply_arg (c := c) (p := p) h0
    rw [e1, e2]
    exact apply_arg k _ _ _ _ b p w h0
  have hk : known k = true := by cases h : known k; exact absurd (.inl h) h0; rfl
  have h1 : ¬ b < 1 := fun h => h0 (.inr h)
  rcases Int.lt_trichotomy b c.batch with h2 | h2 | h2
  · obtain ⟨e1, e2⟩ := Fl.apply_over (c := c) (p := p) hk h1 h2
    rw [e1, e2]
    exact apply_over k _ _ _ _ b p w hk h1 h2
  · obtain ⟨e1, e2⟩ := Fl.apply_again (c := c) (p := p) hk h1 h2
    rw [e1, e2]
    exact apply_again k _ _ _ _ b p w hk h1 h2 hc.1 hp
  · obtain ⟨e1, e2⟩ := Fl.apply_new (c := c) (p := p) hk h1 h2
    rw [e1, e2]
    exact apply_new k _ _ _ _ b p w hk h1 h2 hc.2 hp
end Go.Proofs.Ytelofaceadlfmaa
