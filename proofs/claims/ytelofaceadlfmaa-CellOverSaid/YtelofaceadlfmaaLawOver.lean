/- WALK of CellOver. -/
import Derived.Test.YtelofaceadlfmaaLawA
namespace Go.Proofs.Ytelofaceadlfmaa
open Go.RowKit
open Fl (known fit merge V Cl applyC applyE revertC resolveC emptyC fitC)

set_option maxHeartbeats 1000000 in
theorem over_unknown (k : Int) (key : Nat) (prev cur : V) (n ak b : Int) (p : V) (w : World) (hk : known k = false) :
    Calls Try.prog 7 #[.int .i64 k, .agg #[.int .u64 key, .bool prev.has, .int .u64 prev.bits, .bool cur.has, .int .u64 cur.bits, .int .i64 n], .agg #[.int .i64 ak, .int .i64 b, .bool p.has, .int .u64 p.bits]] w fun e w' => e = .returned (.bool true) ∧ Below w.heap.size w w' := by
  have C1 := Lib.hid awake_any
  have c2 := known_any k
  rw [hk] at c2
  have C2 := Lib.hid c2
  have c3 := fun w => apply_arg k key prev cur n b p w (.inl hk)
  have C3 := Lib.hid c3
  clear c2 c3 hk
  go_enter Try.func7, Try.ntmps7
  go_wp2_with fail
  refine (C1.out _).mono ?_
  rintro e w1 ⟨rfl, hb1⟩
  have qa : Blk w1 (w.heap.size) [.int .u64 key, .bool prev.has, .int .u64 prev.bits, .bool cur.has, .int .u64 cur.bits, .int .i64 n] 26 := ((Blk.new _ _ rfl).alloc _).below hb1; have qac0 : w1.cell? ⟨w.heap.size, 0, none⟩ = some (.int .u64 key) := qa.cell 0; have qac1 : w1.cell? ⟨w.heap.size, 1, none⟩ = some (.bool prev.has) := qa.cell 1; have qac2 : w1.cell? ⟨w.heap.size, 2, none⟩ = some (.int .u64 prev.bits) := qa.cell 2; have qac3 : w1.cell? ⟨w.heap.size, 3, none⟩ = some (.bool cur.has) := qa.cell 3; have qac4 : w1.cell? ⟨w.heap.size, 4, none⟩ = some (.int .u64 cur.bits) := qa.cell 4; have qac5 : w1.cell? ⟨w.heap.size, 5, none⟩ = some (.int .i64 n) := qa.cell 5; have qaf0 : w1.frozen? ⟨w.heap.size, 0, none⟩ = false := qa.free 0; have qaf1 : w1.frozen? ⟨w.heap.size, 1, none⟩ = false := qa.free 1; have qaf2 : w1.frozen? ⟨w.heap.size, 2, none⟩ = false := qa.free 2; have qaf3 : w1.frozen? ⟨w.heap.size, 3, none⟩ = false := qa.free 3; have qaf4 : w1.frozen? ⟨w.heap.size, 4, none⟩ = false := qa.free 4; have qaf5 : w1.frozen? ⟨w.heap.size, 5, none⟩ = false := qa.free 5; have qaz := qa.lt
  have qb : Blk w1 (w.heap.size + 1) [.int .i64 ak, .int .i64 b, .bool p.has, .int .u64 p.bits] 30 := (Blk.new _ _ (by simp)).below hb1; have qbc0 : w1.cell? ⟨w.heap.size + 1, 0, none⟩ = some (.int .i64 ak) := qb.cell 0; have qbc1 : w1.cell? ⟨w.heap.size + 1, 1, none⟩ = some (.int .i64 b) := qb.cell 1; have qbc2 : w1.cell? ⟨w.heap.size + 1, 2, none⟩ = some (.bool p.has) := qb.cell 2; have qbc3 : w1.cell? ⟨w.heap.size + 1, 3, none⟩ = some (.int .u64 p.bits) := qb.cell 3; have qbf0 : w1.frozen? ⟨w.heap.size + 1, 0, none⟩ = false := qb.free 0; have qbf1 : w1.frozen? ⟨w.heap.size + 1, 1, none⟩ = false := qb.free 1; have qbf2 : w1.frozen? ⟨w.heap.size + 1, 2, none⟩ = false := qb.free 2; have qbf3 : w1.frozen? ⟨w.heap.size + 1, 3, none⟩ = false := qb.free 3; have qbz := qb.lt
  have p1 : Below w.heap.size w w1 := (by repeat' (first | with_reducible exact Below.refl _ _ | with_reducible assumption | with_reducible refine bel_drew ?_ | with_reducible refine bel_alloc ?_ _ | with_reducible refine bel_set ?_ ?_ _ | with_reducible refine bel_call ?_ (by assumption) | (dsimp only; omega) | (simp; done) | (simp; omega)))
  clear hb1
  go_wp2_with fail
  refine (C3.out _).mono ?_
  rintro e w2 ⟨rfl, hb2⟩
  have p2 : Below w.heap.size w w2 := (by repeat' (first | with_reducible exact Below.refl _ _ | with_reducible assumption | with_reducible refine bel_drew ?_ | with_reducible refine bel_alloc ?_ _ | with_reducible refine bel_set ?_ ?_ _ | with_reducible refine bel_call ?_ (by assumption) | (dsimp only; omega) | (simp; done) | (simp; omega)))
  have ra := (qa.alloc (.cells #[.bool p.has, .int .u64 p.bits] 24)).below hb2
  clear qac0 qac1 qac2 qac3 qac4 qac5 qaf0 qaf1 qaf2 qaf3 qaf4 qaf5 qbc0 qbc1 qbc2 qbc3 qbf0 qbf1 qbf2 qbf3 qa qb qaz qbz hb2 p1
  have rac0 : w2.cell? ⟨w.heap.size, 0, none⟩ = some (.int .u64 key) := ra.cell 0; have rac1 : w2.cell? ⟨w.heap.size, 1, none⟩ = some (.bool prev.has) := ra.cell 1; have rac2 : w2.cell? ⟨w.heap.size, 2, none⟩ = some (.int .u64 prev.bits) := ra.cell 2; have rac3 : w2.cell? ⟨w.heap.size, 3, none⟩ = some (.bool cur.has) := ra.cell 3; have rac4 : w2.cell? ⟨w.heap.size, 4, none⟩ = some (.int .u64 cur.bits) := ra.cell 4; have rac5 : w2.cell? ⟨w.heap.size, 5, none⟩ = some (.int .i64 n) := ra.cell 5; have raz := ra.lt
  clear ra
  go_wp2_with (go_at_call 20; refine (C2.out _).mono ?_; rintro e w' ⟨rfl, rfl⟩)
  go_ret
  exact ⟨rfl, (by repeat' (first | with_reducible exact Below.refl _ _ | with_reducible assumption | with_reducible refine bel_drew ?_ | with_reducible refine bel_alloc ?_ _ | with_reducible refine bel_set ?_ ?_ _ | with_reducible refine bel_call ?_ (by assumption) | (dsimp only; omega) | (simp; done) | (simp; omega)))⟩
set_option maxHeartbeats 1000000 in
theorem over_below (k : Int) (key : Nat) (prev cur : V) (n ak b : Int) (p : V) (w : World) (hk : known k = true) (h1 : b < 1) :
    Calls Try.prog 7 #[.int .i64 k, .agg #[.int .u64 key, .bool prev.has, .int .u64 prev.bits, .bool cur.has, .int .u64 cur.bits, .int .i64 n], .agg #[.int .i64 ak, .int .i64 b, .bool p.has, .int .u64 p.bits]] w fun e w' => e = .returned (.bool true) ∧ Below w.heap.size w w' := by
  have C1 := Lib.hid awake_any
  have c2 := known_any k
  rw [hk] at c2
  have C2 := Lib.hid c2
  have c3 := fun w => apply_arg k key prev cur n b p w (.inr h1)
  have C3 := Lib.hid c3
  clear c2 c3 hk
  go_enter Try.func7, Try.ntmps7
  go_wp2_with fail
  refine (C1.out _).mono ?_
  rintro e w1 ⟨rfl, hb1⟩
  have qa : Blk w1 (w.heap.size) [.int .u64 key, .bool prev.has, .int .u64 prev.bits, .bool cur.has, .int .u64 cur.bits, .int .i64 n] 26 := ((Blk.new _ _ rfl).alloc _).below hb1; have qac0 : w1.cell? ⟨w.heap.size, 0, none⟩ = some (.int .u64 key) := qa.cell 0; have qac1 : w1.cell? ⟨w.heap.size, 1, none⟩ = some (.bool prev.has) := qa.cell 1; have qac2 : w1.cell? ⟨w.heap.size, 2, none⟩ = some (.int .u64 prev.bits) := qa.cell 2; have qac3 : w1.cell? ⟨w.heap.size, 3, none⟩ = some (.bool cur.has) := qa.cell 3; have qac4 : w1.cell? ⟨w.heap.size, 4, none⟩ = some (.int .u64 cur.bits) := qa.cell 4; have qac5 : w1.cell? ⟨w.heap.size, 5, none⟩ = some (.int .i64 n) := qa.cell 5; have qaf0 : w1.frozen? ⟨w.heap.size, 0, none⟩ = false := qa.free 0; have qaf1 : w1.frozen? ⟨w.heap.size, 1, none⟩ = false := qa.free 1; have qaf2 : w1.frozen? ⟨w.heap.size, 2, none⟩ = false := qa.free 2; have qaf3 : w1.frozen? ⟨w.heap.size, 3, none⟩ = false := qa.free 3; have qaf4 : w1.frozen? ⟨w.heap.size, 4, none⟩ = false := qa.free 4; have qaf5 : w1.frozen? ⟨w.heap.size, 5, none⟩ = false := qa.free 5; have qaz := qa.lt
  have qb : Blk w1 (w.heap.size + 1) [.int .i64 ak, .int .i64 b, .bool p.has, .int .u64 p.bits] 30 := (Blk.new _ _ (by simp)).below hb1; have qbc0 : w1.cell? ⟨w.heap.size + 1, 0, none⟩ = some (.int .i64 ak) := qb.cell 0; have qbc1 : w1.cell? ⟨w.heap.size + 1, 1, none⟩ = some (.int .i64 b) := qb.cell 1; have qbc2 : w1.cell? ⟨w.heap.size + 1, 2, none⟩ = some (.bool p.has) := qb.cell 2; have qbc3 : w1.cell? ⟨w.heap.size + 1, 3, none⟩ = some (.int .u64 p.bits) := qb.cell 3; have qbf0 : w1.frozen? ⟨w.heap.size + 1, 0, none⟩ = false := qb.free 0; have qbf1 : w1.frozen? ⟨w.heap.size + 1, 1, none⟩ = false := qb.free 1; have qbf2 : w1.frozen? ⟨w.heap.size + 1, 2, none⟩ = false := qb.free 2; have qbf3 : w1.frozen? ⟨w.heap.size + 1, 3, none⟩ = false := qb.free 3; have qbz := qb.lt
  have p1 : Below w.heap.size w w1 := (by repeat' (first | with_reducible exact Below.refl _ _ | with_reducible assumption | with_reducible refine bel_drew ?_ | with_reducible refine bel_alloc ?_ _ | with_reducible refine bel_set ?_ ?_ _ | with_reducible refine bel_call ?_ (by assumption) | (dsimp only; omega) | (simp; done) | (simp; omega)))
  clear hb1
  go_wp2_with fail
  refine (C3.out _).mono ?_
  rintro e w2 ⟨rfl, hb2⟩
  have p2 : Below w.heap.size w w2 := (by repeat' (first | with_reducible exact Below.refl _ _ | with_reducible assumption | with_reducible refine bel_drew ?_ | with_reducible refine bel_alloc ?_ _ | with_reducible refine bel_set ?_ ?_ _ | with_reducible refine bel_call ?_ (by assumption) | (dsimp only; omega) | (simp; done) | (simp; omega)))
  have ra := (qa.alloc (.cells #[.bool p.has, .int .u64 p.bits] 24)).below hb2
  clear qac0 qac1 qac2 qac3 qac4 qac5 qaf0 qaf1 qaf2 qaf3 qaf4 qaf5 qbc0 qbc1 qbc2 qbc3 qbf0 qbf1 qbf2 qbf3 qa qb qaz qbz hb2 p1
  have rac0 : w2.cell? ⟨w.heap.size, 0, none⟩ = some (.int .u64 key) := ra.cell 0; have rac1 : w2.cell? ⟨w.heap.size, 1, none⟩ = some (.bool prev.has) := ra.cell 1; have rac2 : w2.cell? ⟨w.heap.size, 2, none⟩ = some (.int .u64 prev.bits) := ra.cell 2; have rac3 : w2.cell? ⟨w.heap.size, 3, none⟩ = some (.bool cur.has) := ra.cell 3; have rac4 : w2.cell? ⟨w.heap.size, 4, none⟩ = some (.int .u64 cur.bits) := ra.cell 4; have rac5 : w2.cell? ⟨w.heap.size, 5, none⟩ = some (.int .i64 n) := ra.cell 5; have raz := ra.lt
  clear ra
  go_wp2_with (go_at_call 20; refine (C2.out _).mono ?_; rintro e w' ⟨rfl, rfl⟩)
  go_ret
  exact ⟨rfl, (by repeat' (first | with_reducible exact Below.refl _ _ | with_reducible assumption | with_reducible refine bel_drew ?_ | with_reducible refine bel_alloc ?_ _ | with_reducible refine bel_set ?_ ?_ _ | with_reducible refine bel_call ?_ (by assumption) | (dsimp only; omega) | (simp; done) | (simp; omega)))⟩
set_option maxHeartbeats 1000000 in
theorem over_over (k : Int) (key : Nat) (prev cur : V) (n ak b : Int) (p : V) (w : World) (hk : known k = true) (h1 : ¬ b < 1) (h2 : b < n) :
    Calls Try.prog 7 #[.int .i64 k, .agg #[.int .u64 key, .bool prev.has, .int .u64 prev.bits, .bool cur.has, .int .u64 cur.bits, .int .i64 n], .agg #[.int .i64 ak, .int .i64 b, .bool p.has, .int .u64 p.bits]] w fun e w' => e = .returned (.bool true) ∧ Below w.heap.size w w' := by
  have C1 := Lib.hid awake_any
  have c2 := known_any k
  have c3 := fun w => apply_over k key prev cur n b p w hk h1 h2
  rw [hk] at c2
  have C2 := Lib.hid c2
  have C3 := Lib.hid c3
  clear c2 c3 hk
  go_enter Try.func7, Try.ntmps7
  go_wp2_with fail
  refine (C1.out _).mono ?_
  rintro e w1 ⟨rfl, hb1⟩
  have qa : Blk w1 (w.heap.size) [.int .u64 key, .bool prev.has, .int .u64 prev.bits, .bool cur.has, .int .u64 cur.bits, .int .i64 n] 26 := ((Blk.new _ _ rfl).alloc _).below hb1; have qac0 : w1.cell? ⟨w.heap.size, 0, none⟩ = some (.int .u64 key) := qa.cell 0; have qac1 : w1.cell? ⟨w.heap.size, 1, none⟩ = some (.bool prev.has) := qa.cell 1; have qac2 : w1.cell? ⟨w.heap.size, 2, none⟩ = some (.int .u64 prev.bits) := qa.cell 2; have qac3 : w1.cell? ⟨w.heap.size, 3, none⟩ = some (.bool cur.has) := qa.cell 3; have qac4 : w1.cell? ⟨w.heap.size, 4, none⟩ = some (.int .u64 cur.bits) := qa.cell 4; have qac5 : w1.cell? ⟨w.heap.size, 5, none⟩ = some (.int .i64 n) := qa.cell 5; have qaf0 : w1.frozen? ⟨w.heap.size, 0, none⟩ = false := qa.free 0; have qaf1 : w1.frozen? ⟨w.heap.size, 1, none⟩ = false := qa.free 1; have qaf2 : w1.frozen? ⟨w.heap.size, 2, none⟩ = false := qa.free 2; have qaf3 : w1.frozen? ⟨w.heap.size, 3, none⟩ = false := qa.free 3; have qaf4 : w1.frozen? ⟨w.heap.size, 4, none⟩ = false := qa.free 4; have qaf5 : w1.frozen? ⟨w.heap.size, 5, none⟩ = false := qa.free 5; have qaz := qa.lt
  have qb : Blk w1 (w.heap.size + 1) [.int .i64 ak, .int .i64 b, .bool p.has, .int .u64 p.bits] 30 := (Blk.new _ _ (by simp)).below hb1; have qbc0 : w1.cell? ⟨w.heap.size + 1, 0, none⟩ = some (.int .i64 ak) := qb.cell 0; have qbc1 : w1.cell? ⟨w.heap.size + 1, 1, none⟩ = some (.int .i64 b) := qb.cell 1; have qbc2 : w1.cell? ⟨w.heap.size + 1, 2, none⟩ = some (.bool p.has) := qb.cell 2; have qbc3 : w1.cell? ⟨w.heap.size + 1, 3, none⟩ = some (.int .u64 p.bits) := qb.cell 3; have qbf0 : w1.frozen? ⟨w.heap.size + 1, 0, none⟩ = false := qb.free 0; have qbf1 : w1.frozen? ⟨w.heap.size + 1, 1, none⟩ = false := qb.free 1; have qbf2 : w1.frozen? ⟨w.heap.size + 1, 2, none⟩ = false := qb.free 2; have qbf3 : w1.frozen? ⟨w.heap.size + 1, 3, none⟩ = false := qb.free 3; have qbz := qb.lt
  have p1 : Below w.heap.size w w1 := (by repeat' (first | with_reducible exact Below.refl _ _ | with_reducible assumption | with_reducible refine bel_drew ?_ | with_reducible refine bel_alloc ?_ _ | with_reducible refine bel_set ?_ ?_ _ | with_reducible refine bel_call ?_ (by assumption) | (dsimp only; omega) | (simp; done) | (simp; omega)))
  clear hb1
  go_wp2_with fail
  refine (C3.out _).mono ?_
  rintro e w2 ⟨rfl, hb2⟩
  have p2 : Below w.heap.size w w2 := (by repeat' (first | with_reducible exact Below.refl _ _ | with_reducible assumption | with_reducible refine bel_drew ?_ | with_reducible refine bel_alloc ?_ _ | with_reducible refine bel_set ?_ ?_ _ | with_reducible refine bel_call ?_ (by assumption) | (dsimp only; omega) | (simp; done) | (simp; omega)))
  have ra := (qa.alloc (.cells #[.bool p.has, .int .u64 p.bits] 24)).below hb2
  clear qac0 qac1 qac2 qac3 qac4 qac5 qaf0 qaf1 qaf2 qaf3 qaf4 qaf5 qbc0 qbc1 qbc2 qbc3 qbf0 qbf1 qbf2 qbf3 qa qb qaz qbz hb2 p1
  have rac0 : w2.cell? ⟨w.heap.size, 0, none⟩ = some (.int .u64 key) := ra.cell 0; have rac1 : w2.cell? ⟨w.heap.size, 1, none⟩ = some (.bool prev.has) := ra.cell 1; have rac2 : w2.cell? ⟨w.heap.size, 2, none⟩ = some (.int .u64 prev.bits) := ra.cell 2; have rac3 : w2.cell? ⟨w.heap.size, 3, none⟩ = some (.bool cur.has) := ra.cell 3; have rac4 : w2.cell? ⟨w.heap.size, 4, none⟩ = some (.int .u64 cur.bits) := ra.cell 4; have rac5 : w2.cell? ⟨w.heap.size, 5, none⟩ = some (.int .i64 n) := ra.cell 5; have raz := ra.lt
  clear ra
  go_wp2_with (go_at_call 20; refine (C2.out _).mono ?_; rintro e w' ⟨rfl, rfl⟩)
  go_ret
  exact ⟨rfl, (by repeat' (first | with_reducible exact Below.refl _ _ | with_reducible assumption | with_reducible refine bel_drew ?_ | with_reducible refine bel_alloc ?_ _ | with_reducible refine bel_set ?_ ?_ _ | with_reducible refine bel_call ?_ (by assumption) | (dsimp only; omega) | (simp; done) | (simp; omega)))⟩
set_option maxHeartbeats 1000000 in
theorem over_again (k : Int) (key : Nat) (prev cur : V) (n ak b : Int) (p : V) (w : World) (hk : known k = true) (h1 : ¬ b < 1) (h2 : b = n) (ho : prev.ok) (hp : p.ok) :
    Calls Try.prog 7 #[.int .i64 k, .agg #[.int .u64 key, .bool prev.has, .int .u64 prev.bits, .bool cur.has, .int .u64 cur.bits, .int .i64 n], .agg #[.int .i64 ak, .int .i64 b, .bool p.has, .int .u64 p.bits]] w fun e w' => e = .returned (.bool true) ∧ Below w.heap.size w w' := by
  have C1 := Lib.hid awake_any
  have c2 := known_any k
  have c3 := fun w => apply_again k key prev cur n b p w hk h1 h2 ho hp
  have c4 := fun w => fit_any k (merge k prev p) w (Fl.merge_ok ho hp)
  rw [Fl.fit_merge] at c4
  rw [hk] at c2
  generalize merge k prev p = m at *
  have C2 := Lib.hid c2
  have C3 := Lib.hid c3
  have C4 := Lib.hid c4
  subst h2
  clear c2 c3 c4 hk ho hp
  go_enter Try.func7, Try.ntmps7
  go_wp2_with fail
  refine (C1.out _).mono ?_
  rintro e w1 ⟨rfl, hb1⟩
  have qa : Blk w1 (w.heap.size) [.int .u64 key, .bool prev.has, .int .u64 prev.bits, .bool cur.has, .int .u64 cur.bits, .int .i64 b] 26 := ((Blk.new _ _ rfl).alloc _).below hb1; have qac0 : w1.cell? ⟨w.heap.size, 0, none⟩ = some (.int .u64 key) := qa.cell 0; have qac1 : w1.cell? ⟨w.heap.size, 1, none⟩ = some (.bool prev.has) := qa.cell 1; have qac2 : w1.cell? ⟨w.heap.size, 2, none⟩ = some (.int .u64 prev.bits) := qa.cell 2; have qac3 : w1.cell? ⟨w.heap.size, 3, none⟩ = some (.bool cur.has) := qa.cell 3; have qac4 : w1.cell? ⟨w.heap.size, 4, none⟩ = some (.int .u64 cur.bits) := qa.cell 4; have qac5 : w1.cell? ⟨w.heap.size, 5, none⟩ = some (.int .i64 b) := qa.cell 5; have qaf0 : w1.frozen? ⟨w.heap.size, 0, none⟩ = false := qa.free 0; have qaf1 : w1.frozen? ⟨w.heap.size, 1, none⟩ = false := qa.free 1; have qaf2 : w1.frozen? ⟨w.heap.size, 2, none⟩ = false := qa.free 2; have qaf3 : w1.frozen? ⟨w.heap.size, 3, none⟩ = false := qa.free 3; have qaf4 : w1.frozen? ⟨w.heap.size, 4, none⟩ = false := qa.free 4; have qaf5 : w1.frozen? ⟨w.heap.size, 5, none⟩ = false := qa.free 5; have qaz := qa.lt
  have qb : Blk w1 (w.heap.size + 1) [.int .i64 ak, .int .i64 b, .bool p.has, .int .u64 p.bits] 30 := (Blk.new _ _ (by simp)).below hb1; have qbc0 : w1.cell? ⟨w.heap.size + 1, 0, none⟩ = some (.int .i64 ak) := qb.cell 0; have qbc1 : w1.cell? ⟨w.heap.size + 1, 1, none⟩ = some (.int .i64 b) := qb.cell 1; have qbc2 : w1.cell? ⟨w.heap.size + 1, 2, none⟩ = some (.bool p.has) := qb.cell 2; have qbc3 : w1.cell? ⟨w.heap.size + 1, 3, none⟩ = some (.int .u64 p.bits) := qb.cell 3; have qbf0 : w1.frozen? ⟨w.heap.size + 1, 0, none⟩ = false := qb.free 0; have qbf1 : w1.frozen? ⟨w.heap.size + 1, 1, none⟩ = false := qb.free 1; have qbf2 : w1.frozen? ⟨w.heap.size + 1, 2, none⟩ = false := qb.free 2; have qbf3 : w1.frozen? ⟨w.heap.size + 1, 3, none⟩ = false := qb.free 3; have qbz := qb.lt
  have p1 : Below w.heap.size w w1 := (by repeat' (first | with_reducible exact Below.refl _ _ | with_reducible assumption | with_reducible refine bel_drew ?_ | with_reducible refine bel_alloc ?_ _ | with_reducible refine bel_set ?_ ?_ _ | with_reducible refine bel_call ?_ (by assumption) | (dsimp only; omega) | (simp; done) | (simp; omega)))
  clear hb1
  go_wp2_with fail
  refine (C3.out _).mono ?_
  rintro e w2 ⟨rfl, hb2⟩
  have p2 : Below w.heap.size w w2 := (by repeat' (first | with_reducible exact Below.refl _ _ | with_reducible assumption | with_reducible refine bel_drew ?_ | with_reducible refine bel_alloc ?_ _ | with_reducible refine bel_set ?_ ?_ _ | with_reducible refine bel_call ?_ (by assumption) | (dsimp only; omega) | (simp; done) | (simp; omega)))
  have ra := (qa.alloc (.cells #[.bool p.has, .int .u64 p.bits] 24)).below hb2
  clear qac0 qac1 qac2 qac3 qac4 qac5 qaf0 qaf1 qaf2 qaf3 qaf4 qaf5 qbc0 qbc1 qbc2 qbc3 qbf0 qbf1 qbf2 qbf3 qa qb qaz qbz hb2 p1
  have rac0 : w2.cell? ⟨w.heap.size, 0, none⟩ = some (.int .u64 key) := ra.cell 0; have rac1 : w2.cell? ⟨w.heap.size, 1, none⟩ = some (.bool prev.has) := ra.cell 1; have rac2 : w2.cell? ⟨w.heap.size, 2, none⟩ = some (.int .u64 prev.bits) := ra.cell 2; have rac3 : w2.cell? ⟨w.heap.size, 3, none⟩ = some (.bool cur.has) := ra.cell 3; have rac4 : w2.cell? ⟨w.heap.size, 4, none⟩ = some (.int .u64 cur.bits) := ra.cell 4; have rac5 : w2.cell? ⟨w.heap.size, 5, none⟩ = some (.int .i64 b) := ra.cell 5; have raz := ra.lt
  clear ra
  go_wp2_with (go_at_call 20; refine (C2.out _).mono ?_; rintro e w' ⟨rfl, rfl⟩)
  refine wp_region_below (by kernel_rfl) (by kernel_rfl) ?_
  iterate 51 (first | (refine lex_skip (by rfl) (fun _ _ _ _ h => h) ?_; simp only [Act.put, List.setIfInBounds_toArray, List.set_cons_zero, List.set_cons_succ]) | (refine lex_op (by rfl) ?_; apply Exists.intro; refine ⟨?_, ?_⟩; ((intro _ _ _ _ hT; obtain ⟨hc, hf⟩ := bcell hT; go_simp; first | exact rfl | exact call_below hT (C4.out _))); simp only [Act.put, List.setIfInBounds_toArray, List.set_cons_zero, List.set_cons_succ]))
  refine lex_nil ?_
  intro w5 hb5
  go_wp2_with fail
  go_ret
  exact ⟨rfl, (by repeat' (first | with_reducible exact Below.refl _ _ | with_reducible assumption | with_reducible refine bel_drew ?_ | with_reducible refine bel_alloc ?_ _ | with_reducible refine bel_set ?_ ?_ _ | with_reducible refine bel_call ?_ (by assumption) | (dsimp only; omega) | (simp; done) | (simp; omega)))⟩
set_option maxHeartbeats 1000000 in
theorem over_new (k : Int) (key : Nat) (prev cur : V) (n ak b : Int) (p : V) (w : World) (hk : known k = true) (h1 : ¬ b < 1) (h2 : n < b) (ho : cur.ok) (hp : p.ok) :
    Calls Try.prog 7 #[.int .i64 k, .agg #[.int .u64 key, .bool prev.has, .int .u64 prev.bits, .bool cur.has, .int .u64 cur.bits, .int .i64 n], .agg #[.int .i64 ak, .int .i64 b, .bool p.has, .int .u64 p.bits]] w fun e w' => e = .returned (.bool true) ∧ Below w.heap.size w w' := by
  have C1 := Lib.hid awake_any
  have c2 := known_any k
  have c3 := fun w => apply_new k key prev cur n b p w hk h1 h2 ho hp
  have c4 := fun w => fit_any k (merge k cur p) w (Fl.merge_ok ho hp)
  rw [Fl.fit_merge] at c4
  rw [hk] at c2
  generalize merge k cur p = m at *
  have C2 := Lib.hid c2
  have C3 := Lib.hid c3
  have C4 := Lib.hid c4
  have h3 : (b != n) = true := by simp; omega
  have h4 : (b == n) = false := by simp; omega
  clear c2 c3 c4 hk ho hp
  go_enter Try.func7, Try.ntmps7
  go_wp2_with fail
  refine (C1.out _).mono ?_
  rintro e w1 ⟨rfl, hb1⟩
  have qa : Blk w1 (w.heap.size) [.int .u64 key, .bool prev.has, .int .u64 prev.bits, .bool cur.has, .int .u64 cur.bits, .int .i64 n] 26 := ((Blk.new _ _ rfl).alloc _).below hb1; have qac0 : w1.cell? ⟨w.heap.size, 0, none⟩ = some (.int .u64 key) := qa.cell 0; have qac1 : w1.cell? ⟨w.heap.size, 1, none⟩ = some (.bool prev.has) := qa.cell 1; have qac2 : w1.cell? ⟨w.heap.size, 2, none⟩ = some (.int .u64 prev.bits) := qa.cell 2; have qac3 : w1.cell? ⟨w.heap.size, 3, none⟩ = some (.bool cur.has) := qa.cell 3; have qac4 : w1.cell? ⟨w.heap.size, 4, none⟩ = some (.int .u64 cur.bits) := qa.cell 4; have qac5 : w1.cell? ⟨w.heap.size, 5, none⟩ = some (.int .i64 n) := qa.cell 5; have qaf0 : w1.frozen? ⟨w.heap.size, 0, none⟩ = false := qa.free 0; have qaf1 : w1.frozen? ⟨w.heap.size, 1, none⟩ = false := qa.free 1; have qaf2 : w1.frozen? ⟨w.heap.size, 2, none⟩ = false := qa.free 2; have qaf3 : w1.frozen? ⟨w.heap.size, 3, none⟩ = false := qa.free 3; have qaf4 : w1.frozen? ⟨w.heap.size, 4, none⟩ = false := qa.free 4; have qaf5 : w1.frozen? ⟨w.heap.size, 5, none⟩ = false := qa.free 5; have qaz := qa.lt
  have qb : Blk w1 (w.heap.size + 1) [.int .i64 ak, .int .i64 b, .bool p.has, .int .u64 p.bits] 30 := (Blk.new _ _ (by simp)).below hb1; have qbc0 : w1.cell? ⟨w.heap.size + 1, 0, none⟩ = some (.int .i64 ak) := qb.cell 0; have qbc1 : w1.cell? ⟨w.heap.size + 1, 1, none⟩ = some (.int .i64 b) := qb.cell 1; have qbc2 : w1.cell? ⟨w.heap.size + 1, 2, none⟩ = some (.bool p.has) := qb.cell 2; have qbc3 : w1.cell? ⟨w.heap.size + 1, 3, none⟩ = some (.int .u64 p.bits) := qb.cell 3; have qbf0 : w1.frozen? ⟨w.heap.size + 1, 0, none⟩ = false := qb.free 0; have qbf1 : w1.frozen? ⟨w.heap.size + 1, 1, none⟩ = false := qb.free 1; have qbf2 : w1.frozen? ⟨w.heap.size + 1, 2, none⟩ = false := qb.free 2; have qbf3 : w1.frozen? ⟨w.heap.size + 1, 3, none⟩ = false := qb.free 3; have qbz := qb.lt
  have p1 : Below w.heap.size w w1 := (by repeat' (first | with_reducible exact Below.refl _ _ | with_reducible assumption | with_reducible refine bel_drew ?_ | with_reducible refine bel_alloc ?_ _ | with_reducible refine bel_set ?_ ?_ _ | with_reducible refine bel_call ?_ (by assumption) | (dsimp only; omega) | (simp; done) | (simp; omega)))
  clear hb1
  go_wp2_with fail
  refine (C3.out _).mono ?_
  rintro e w2 ⟨rfl, hb2⟩
  have p2 : Below w.heap.size w w2 := (by repeat' (first | with_reducible exact Below.refl _ _ | with_reducible assumption | with_reducible refine bel_drew ?_ | with_reducible refine bel_alloc ?_ _ | with_reducible refine bel_set ?_ ?_ _ | with_reducible refine bel_call ?_ (by assumption) | (dsimp only; omega) | (simp; done) | (simp; omega)))
  have ra := (qa.alloc (.cells #[.bool p.has, .int .u64 p.bits] 24)).below hb2
  clear qac0 qac1 qac2 qac3 qac4 qac5 qaf0 qaf1 qaf2 qaf3 qaf4 qaf5 qbc0 qbc1 qbc2 qbc3 qbf0 qbf1 qbf2 qbf3 qa qb qaz qbz hb2 p1
  have rac0 : w2.cell? ⟨w.heap.size, 0, none⟩ = some (.int .u64 key) := ra.cell 0; have rac1 : w2.cell? ⟨w.heap.size, 1, none⟩ = some (.bool prev.has) := ra.cell 1; have rac2 : w2.cell? ⟨w.heap.size, 2, none⟩ = some (.int .u64 prev.bits) := ra.cell 2; have rac3 : w2.cell? ⟨w.heap.size, 3, none⟩ = some (.bool cur.has) := ra.cell 3; have rac4 : w2.cell? ⟨w.heap.size, 4, none⟩ = some (.int .u64 cur.bits) := ra.cell 4; have rac5 : w2.cell? ⟨w.heap.size, 5, none⟩ = some (.int .i64 n) := ra.cell 5; have raz := ra.lt
  clear ra
  go_wp2_with (go_at_call 20; refine (C2.out _).mono ?_; rintro e w' ⟨rfl, rfl⟩)
  refine wp_region_below (by kernel_rfl) (by kernel_rfl) ?_
  iterate 51 (first | (refine lex_skip (by rfl) (fun _ _ _ _ h => h) ?_; simp only [Act.put, List.setIfInBounds_toArray, List.set_cons_zero, List.set_cons_succ]) | (refine lex_op (by rfl) ?_; apply Exists.intro; refine ⟨?_, ?_⟩; ((intro _ _ _ _ hT; obtain ⟨hc, hf⟩ := bcell hT; go_simp; first | exact rfl | exact call_below hT (C4.out _))); simp only [Act.put, List.setIfInBounds_toArray, List.set_cons_zero, List.set_cons_succ]))
  refine lex_nil ?_
  intro w5 hb5
  go_wp2_with fail
  go_ret
  exact ⟨rfl, (by repeat' (first | with_reducible exact Below.refl _ _ | with_reducible assumption | with_reducible refine bel_drew ?_ | with_reducible refine bel_alloc ?_ _ | with_reducible refine bel_set ?_ ?_ _ | with_reducible refine bel_call ?_ (by assumption) | (dsimp only; omega) | (simp; done) | (simp; omega)))⟩
theorem over_any (k : Int) (c : Cl) (ak b : Int) (p : V) (w : World) (hc : c.ok) (hp : p.ok) :
    Calls Try.prog 7 #[.int .i64 k, .agg #[.int .u64 c.key, .bool c.prev.has, .int .u64 c.prev.bits, .bool c.cur.has, .int .u64 c.cur.bits, .int .i64 c.batch], .agg #[.int .i64 ak, .int .i64 b, .bool p.has, .int .u64 p.bits]] w fun e w' => e = .returned (.bool true) ∧ Below w.heap.size w w' := by
  cases hk : known k
  · exact over_unknown k _ _ _ _ ak b p w hk
  by_cases h1 : b < 1
  · exact over_below k _ _ _ _ ak b p w hk h1
  rcases Int.lt_trichotomy b c.batch with h2 | h2 | h2
  · exact over_over k _ _ _ _ ak b p w hk h1 h2
  · exact over_again k _ _ _ _ ak b p w hk h1 h2 hc.1 hp
  · exact over_new k _ _ _ _ ak b p w hk h1 h2 hc.2 hp
end Go.Proofs.Ytelofaceadlfmaa
