/- WALK of CellReverts. -/
import Derived.Test.YtelofaceadlfmaaLawA
namespace Go.Proofs.Ytelofaceadlfmaa
open Go.RowKit
open Fl (known fit merge V Cl applyC applyE revertC resolveC emptyC fitC)

set_option maxHeartbeats 1000000 in
theorem reverts_unfit (k : Int) (key : Nat) (prev cur : V) (n b other : Int) (s0 : Value) (sa : Option Addr) (sl sc : Nat) (w : World) (hc : (⟨key, prev, cur, n⟩ : Cl).ok) (hf : fitC k (⟨key, prev, cur, n⟩ : Cl) = false) :
    Calls Try.prog 5 #[.agg #[.int .i64 k, .int .u64 key, .bool prev.has, .int .u64 prev.bits, .bool cur.has, .int .u64 cur.bits, .int .i64 n, .int .i64 b, s0, .slice sa sl sc], .int .i64 other] w fun e w' => e = .returned (.bool true) ∧ Below w.heap.size w w' := by
  have C1 := Lib.hid awake_any
  have c2 := fun w => cfit_any k (⟨key, prev, cur, n⟩ : Cl) w hc
  rw [hf] at c2
  have C2 := Lib.hid c2
  clear c2 hf hc
  go_enter Try.func5, Try.ntmps5
  go_wp2_with fail
  refine (C1.out _).mono ?_
  rintro e w1 ⟨rfl, hb1⟩
  have qa : Blk w1 (w.heap.size) [.int .i64 k, .int .u64 key, .bool prev.has, .int .u64 prev.bits, .bool cur.has, .int .u64 cur.bits, .int .i64 n, .int .i64 b, s0, .slice sa sl sc] 43 := (Blk.new _ _ rfl).below hb1; have qac0 : w1.cell? ⟨w.heap.size, 0, none⟩ = some (.int .i64 k) := qa.cell 0; have qac1 : w1.cell? ⟨w.heap.size, 1, none⟩ = some (.int .u64 key) := qa.cell 1; have qac2 : w1.cell? ⟨w.heap.size, 2, none⟩ = some (.bool prev.has) := qa.cell 2; have qac3 : w1.cell? ⟨w.heap.size, 3, none⟩ = some (.int .u64 prev.bits) := qa.cell 3; have qac4 : w1.cell? ⟨w.heap.size, 4, none⟩ = some (.bool cur.has) := qa.cell 4; have qac5 : w1.cell? ⟨w.heap.size, 5, none⟩ = some (.int .u64 cur.bits) := qa.cell 5; have qac6 : w1.cell? ⟨w.heap.size, 6, none⟩ = some (.int .i64 n) := qa.cell 6; have qac7 : w1.cell? ⟨w.heap.size, 7, none⟩ = some (.int .i64 b) := qa.cell 7; have qac8 : w1.cell? ⟨w.heap.size, 8, none⟩ = some (s0) := qa.cell 8; have qac9 : w1.cell? ⟨w.heap.size, 9, none⟩ = some (.slice sa sl sc) := qa.cell 9; have qaf0 : w1.frozen? ⟨w.heap.size, 0, none⟩ = false := qa.free 0; have qaf1 : w1.frozen? ⟨w.heap.size, 1, none⟩ = false := qa.free 1; have qaf2 : w1.frozen? ⟨w.heap.size, 2, none⟩ = false := qa.free 2; have qaf3 : w1.frozen? ⟨w.heap.size, 3, none⟩ = false := qa.free 3; have qaf4 : w1.frozen? ⟨w.heap.size, 4, none⟩ = false := qa.free 4; have qaf5 : w1.frozen? ⟨w.heap.size, 5, none⟩ = false := qa.free 5; have qaf6 : w1.frozen? ⟨w.heap.size, 6, none⟩ = false := qa.free 6; have qaf7 : w1.frozen? ⟨w.heap.size, 7, none⟩ = false := qa.free 7; have qaf8 : w1.frozen? ⟨w.heap.size, 8, none⟩ = false := qa.free 8; have qaf9 : w1.frozen? ⟨w.heap.size, 9, none⟩ = false := qa.free 9; have qaz := qa.lt
  have p1 : Below w.heap.size w w1 := (by repeat' (first | with_reducible exact Below.refl _ _ | with_reducible assumption | with_reducible refine bel_drew ?_ | with_reducible refine bel_alloc ?_ _ | with_reducible refine bel_set ?_ ?_ _ | with_reducible refine bel_call ?_ (by assumption) | (dsimp only; omega) | (simp; done) | (simp; omega)))
  clear hb1
  go_wp2_with fail
  refine (C2.out _).mono ?_
  rintro e w2 ⟨rfl, hb2⟩
  have p2 : Below w.heap.size w w2 := (by repeat' (first | with_reducible exact Below.refl _ _ | with_reducible assumption | with_reducible refine bel_drew ?_ | with_reducible refine bel_alloc ?_ _ | with_reducible refine bel_set ?_ ?_ _ | with_reducible refine bel_call ?_ (by assumption) | (dsimp only; omega) | (simp; done) | (simp; omega)))
  have ra := qa.below hb2
  clear qa qac0 qac1 qac2 qac3 qac4 qac5 qac6 qac7 qac8 qac9 qaf0 qaf1 qaf2 qaf3 qaf4 qaf5 qaf6 qaf7 qaf8 qaf9 qaz hb2 p1
  have rac0 : w2.cell? ⟨w.heap.size, 0, none⟩ = some (.int .i64 k) := ra.cell 0; have rac1 : w2.cell? ⟨w.heap.size, 1, none⟩ = some (.int .u64 key) := ra.cell 1; have rac2 : w2.cell? ⟨w.heap.size, 2, none⟩ = some (.bool prev.has) := ra.cell 2; have rac3 : w2.cell? ⟨w.heap.size, 3, none⟩ = some (.int .u64 prev.bits) := ra.cell 3; have rac4 : w2.cell? ⟨w.heap.size, 4, none⟩ = some (.bool cur.has) := ra.cell 4; have rac5 : w2.cell? ⟨w.heap.size, 5, none⟩ = some (.int .u64 cur.bits) := ra.cell 5; have rac6 : w2.cell? ⟨w.heap.size, 6, none⟩ = some (.int .i64 n) := ra.cell 6; have rac7 : w2.cell? ⟨w.heap.size, 7, none⟩ = some (.int .i64 b) := ra.cell 7; have rac8 : w2.cell? ⟨w.heap.size, 8, none⟩ = some (s0) := ra.cell 8; have rac9 : w2.cell? ⟨w.heap.size, 9, none⟩ = some (.slice sa sl sc) := ra.cell 9; have raz := ra.lt
 
  go_wp2_with fail
  go_ret
  exact ⟨rfl, (by repeat' (first | with_reducible exact Below.refl _ _ | with_reducible assumption | with_reducible refine bel_drew ?_ | with_reducible refine bel_alloc ?_ _ | with_reducible refine bel_set ?_ ?_ _ | with_reducible refine bel_call ?_ (by assumption) | (dsimp only; omega) | (simp; done) | (simp; omega)))⟩
set_option maxHeartbeats 1000000 in
theorem reverts_back (k : Int) (key : Nat) (prev cur : V) (n b other : Int) (s0 : Value) (sa : Option Addr) (sl sc : Nat) (w : World) (hc : (⟨key, prev, cur, n⟩ : Cl).ok) (hf : fitC k (⟨key, prev, cur, n⟩ : Cl) = true) (h1 : b ≤ n) :
    Calls Try.prog 5 #[.agg #[.int .i64 k, .int .u64 key, .bool prev.has, .int .u64 prev.bits, .bool cur.has, .int .u64 cur.bits, .int .i64 n, .int .i64 b, s0, .slice sa sl sc], .int .i64 other] w fun e w' => e = .returned (.bool true) ∧ Below w.heap.size w w' := by
  have C1 := Lib.hid awake_any
  have c2 := fun w => cfit_any k (⟨key, prev, cur, n⟩ : Cl) w hc
  rw [hf] at c2
  have C2 := Lib.hid c2
  clear c2 hf hc
  go_enter Try.func5, Try.ntmps5
  go_wp2_with fail
  refine (C1.out _).mono ?_
  rintro e w1 ⟨rfl, hb1⟩
  have qa : Blk w1 (w.heap.size) [.int .i64 k, .int .u64 key, .bool prev.has, .int .u64 prev.bits, .bool cur.has, .int .u64 cur.bits, .int .i64 n, .int .i64 b, s0, .slice sa sl sc] 43 := (Blk.new _ _ rfl).below hb1; have qac0 : w1.cell? ⟨w.heap.size, 0, none⟩ = some (.int .i64 k) := qa.cell 0; have qac1 : w1.cell? ⟨w.heap.size, 1, none⟩ = some (.int .u64 key) := qa.cell 1; have qac2 : w1.cell? ⟨w.heap.size, 2, none⟩ = some (.bool prev.has) := qa.cell 2; have qac3 : w1.cell? ⟨w.heap.size, 3, none⟩ = some (.int .u64 prev.bits) := qa.cell 3; have qac4 : w1.cell? ⟨w.heap.size, 4, none⟩ = some (.bool cur.has) := qa.cell 4; have qac5 : w1.cell? ⟨w.heap.size, 5, none⟩ = some (.int .u64 cur.bits) := qa.cell 5; have qac6 : w1.cell? ⟨w.heap.size, 6, none⟩ = some (.int .i64 n) := qa.cell 6; have qac7 : w1.cell? ⟨w.heap.size, 7, none⟩ = some (.int .i64 b) := qa.cell 7; have qac8 : w1.cell? ⟨w.heap.size, 8, none⟩ = some (s0) := qa.cell 8; have qac9 : w1.cell? ⟨w.heap.size, 9, none⟩ = some (.slice sa sl sc) := qa.cell 9; have qaf0 : w1.frozen? ⟨w.heap.size, 0, none⟩ = false := qa.free 0; have qaf1 : w1.frozen? ⟨w.heap.size, 1, none⟩ = false := qa.free 1; have qaf2 : w1.frozen? ⟨w.heap.size, 2, none⟩ = false := qa.free 2; have qaf3 : w1.frozen? ⟨w.heap.size, 3, none⟩ = false := qa.free 3; have qaf4 : w1.frozen? ⟨w.heap.size, 4, none⟩ = false := qa.free 4; have qaf5 : w1.frozen? ⟨w.heap.size, 5, none⟩ = false := qa.free 5; have qaf6 : w1.frozen? ⟨w.heap.size, 6, none⟩ = false := qa.free 6; have qaf7 : w1.frozen? ⟨w.heap.size, 7, none⟩ = false := qa.free 7; have qaf8 : w1.frozen? ⟨w.heap.size, 8, none⟩ = false := qa.free 8; have qaf9 : w1.frozen? ⟨w.heap.size, 9, none⟩ = false := qa.free 9; have qaz := qa.lt
  have p1 : Below w.heap.size w w1 := (by repeat' (first | with_reducible exact Below.refl _ _ | with_reducible assumption | with_reducible refine bel_drew ?_ | with_reducible refine bel_alloc ?_ _ | with_reducible refine bel_set ?_ ?_ _ | with_reducible refine bel_call ?_ (by assumption) | (dsimp only; omega) | (simp; done) | (simp; omega)))
  clear hb1
  go_wp2_with fail
  refine (C2.out _).mono ?_
  rintro e w2 ⟨rfl, hb2⟩
  have p2 : Below w.heap.size w w2 := (by repeat' (first | with_reducible exact Below.refl _ _ | with_reducible assumption | with_reducible refine bel_drew ?_ | with_reducible refine bel_alloc ?_ _ | with_reducible refine bel_set ?_ ?_ _ | with_reducible refine bel_call ?_ (by assumption) | (dsimp only; omega) | (simp; done) | (simp; omega)))
  have ra := qa.below hb2
  clear qa qac0 qac1 qac2 qac3 qac4 qac5 qac6 qac7 qac8 qac9 qaf0 qaf1 qaf2 qaf3 qaf4 qaf5 qaf6 qaf7 qaf8 qaf9 qaz hb2 p1
  have rac0 : w2.cell? ⟨w.heap.size, 0, none⟩ = some (.int .i64 k) := ra.cell 0; have rac1 : w2.cell? ⟨w.heap.size, 1, none⟩ = some (.int .u64 key) := ra.cell 1; have rac2 : w2.cell? ⟨w.heap.size, 2, none⟩ = some (.bool prev.has) := ra.cell 2; have rac3 : w2.cell? ⟨w.heap.size, 3, none⟩ = some (.int .u64 prev.bits) := ra.cell 3; have rac4 : w2.cell? ⟨w.heap.size, 4, none⟩ = some (.bool cur.has) := ra.cell 4; have rac5 : w2.cell? ⟨w.heap.size, 5, none⟩ = some (.int .u64 cur.bits) := ra.cell 5; have rac6 : w2.cell? ⟨w.heap.size, 6, none⟩ = some (.int .i64 n) := ra.cell 6; have rac7 : w2.cell? ⟨w.heap.size, 7, none⟩ = some (.int .i64 b) := ra.cell 7; have rac8 : w2.cell? ⟨w.heap.size, 8, none⟩ = some (s0) := ra.cell 8; have rac9 : w2.cell? ⟨w.heap.size, 9, none⟩ = some (.slice sa sl sc) := ra.cell 9; have raz := ra.lt
 
  go_wp2_with fail
  go_ret
  exact ⟨rfl, (by repeat' (first | with_reducible exact Below.refl _ _ | with_reducible assumption | with_reducible refine bel_drew ?_ | with_reducible refine bel_alloc ?_ _ | with_reducible refine bel_set ?_ ?_ _ | with_reducible refine bel_call ?_ (by assumption) | (dsimp only; omega) | (simp; done) | (simp; omega)))⟩
set_option maxHeartbeats 1000000 in
theorem reverts_none (k : Int) (key : Nat) (prev cur : V) (n b other : Int) (sa : Option Addr) (sl sc : Nat) (w : World) (s1 : Option Addr) (s3 : Nat) (hc : (⟨key, prev, cur, n⟩ : Cl).ok) (hf : fitC k (⟨key, prev, cur, n⟩ : Cl) = true) (h1 : ¬ b ≤ n) :
    Calls Try.prog 5 #[.agg #[.int .i64 k, .int .u64 key, .bool prev.has, .int .u64 prev.bits, .bool cur.has, .int .u64 cur.bits, .int .i64 n, .int .i64 b, .slice s1 0 s3, .slice sa sl sc], .int .i64 other] w fun e w' => e = .returned (.bool true) ∧ Below w.heap.size w w' := by
  have C1 := Lib.hid awake_any
  have c2 := fun w => cfit_any k (⟨key, prev, cur, n⟩ : Cl) w hc
  rw [hf] at c2
  have C2 := Lib.hid c2
  clear c2 hf hc
  go_enter Try.func5, Try.ntmps5
  go_wp2_with fail
  refine (C1.out _).mono ?_
  rintro e w1 ⟨rfl, hb1⟩
  have qa : Blk w1 (w.heap.size) [.int .i64 k, .int .u64 key, .bool prev.has, .int .u64 prev.bits, .bool cur.has, .int .u64 cur.bits, .int .i64 n, .int .i64 b, .slice s1 0 s3, .slice sa sl sc] 43 := (Blk.new _ _ rfl).below hb1; have qac0 : w1.cell? ⟨w.heap.size, 0, none⟩ = some (.int .i64 k) := qa.cell 0; have qac1 : w1.cell? ⟨w.heap.size, 1, none⟩ = some (.int .u64 key) := qa.cell 1; have qac2 : w1.cell? ⟨w.heap.size, 2, none⟩ = some (.bool prev.has) := qa.cell 2; have qac3 : w1.cell? ⟨w.heap.size, 3, none⟩ = some (.int .u64 prev.bits) := qa.cell 3; have qac4 : w1.cell? ⟨w.heap.size, 4, none⟩ = some (.bool cur.has) := qa.cell 4; have qac5 : w1.cell? ⟨w.heap.size, 5, none⟩ = some (.int .u64 cur.bits) := qa.cell 5; have qac6 : w1.cell? ⟨w.heap.size, 6, none⟩ = some (.int .i64 n) := qa.cell 6; have qac7 : w1.cell? ⟨w.heap.size, 7, none⟩ = some (.int .i64 b) := qa.cell 7; have qac8 : w1.cell? ⟨w.heap.size, 8, none⟩ = some (.slice s1 0 s3) := qa.cell 8; have qac9 : w1.cell? ⟨w.heap.size, 9, none⟩ = some (.slice sa sl sc) := qa.cell 9; have qaf0 : w1.frozen? ⟨w.heap.size, 0, none⟩ = false := qa.free 0; have qaf1 : w1.frozen? ⟨w.heap.size, 1, none⟩ = false := qa.free 1; have qaf2 : w1.frozen? ⟨w.heap.size, 2, none⟩ = false := qa.free 2; have qaf3 : w1.frozen? ⟨w.heap.size, 3, none⟩ = false := qa.free 3; have qaf4 : w1.frozen? ⟨w.heap.size, 4, none⟩ = false := qa.free 4; have qaf5 : w1.frozen? ⟨w.heap.size, 5, none⟩ = false := qa.free 5; have qaf6 : w1.frozen? ⟨w.heap.size, 6, none⟩ = false := qa.free 6; have qaf7 : w1.frozen? ⟨w.heap.size, 7, none⟩ = false := qa.free 7; have qaf8 : w1.frozen? ⟨w.heap.size, 8, none⟩ = false := qa.free 8; have qaf9 : w1.frozen? ⟨w.heap.size, 9, none⟩ = false := qa.free 9; have qaz := qa.lt
  have p1 : Below w.heap.size w w1 := (by repeat' (first | with_reducible exact Below.refl _ _ | with_reducible assumption | with_reducible refine bel_drew ?_ | with_reducible refine bel_alloc ?_ _ | with_reducible refine bel_set ?_ ?_ _ | with_reducible refine bel_call ?_ (by assumption) | (dsimp only; omega) | (simp; done) | (simp; omega)))
  clear hb1
  go_wp2_with fail
  refine (C2.out _).mono ?_
  rintro e w2 ⟨rfl, hb2⟩
  have p2 : Below w.heap.size w w2 := (by repeat' (first | with_reducible exact Below.refl _ _ | with_reducible assumption | with_reducible refine bel_drew ?_ | with_reducible refine bel_alloc ?_ _ | with_reducible refine bel_set ?_ ?_ _ | with_reducible refine bel_call ?_ (by assumption) | (dsimp only; omega) | (simp; done) | (simp; omega)))
  have ra := qa.below hb2
  clear qa qac0 qac1 qac2 qac3 qac4 qac5 qac6 qac7 qac8 qac9 qaf0 qaf1 qaf2 qaf3 qaf4 qaf5 qaf6 qaf7 qaf8 qaf9 qaz hb2 p1
  have rac0 : w2.cell? ⟨w.heap.size, 0, none⟩ = some (.int .i64 k) := ra.cell 0; have rac1 : w2.cell? ⟨w.heap.size, 1, none⟩ = some (.int .u64 key) := ra.cell 1; have rac2 : w2.cell? ⟨w.heap.size, 2, none⟩ = some (.bool prev.has) := ra.cell 2; have rac3 : w2.cell? ⟨w.heap.size, 3, none⟩ = some (.int .u64 prev.bits) := ra.cell 3; have rac4 : w2.cell? ⟨w.heap.size, 4, none⟩ = some (.bool cur.has) := ra.cell 4; have rac5 : w2.cell? ⟨w.heap.size, 5, none⟩ = some (.int .u64 cur.bits) := ra.cell 5; have rac6 : w2.cell? ⟨w.heap.size, 6, none⟩ = some (.int .i64 n) := ra.cell 6; have rac7 : w2.cell? ⟨w.heap.size, 7, none⟩ = some (.int .i64 b) := ra.cell 7; have rac8 : w2.cell? ⟨w.heap.size, 8, none⟩ = some (.slice s1 0 s3) := ra.cell 8; have rac9 : w2.cell? ⟨w.heap.size, 9, none⟩ = some (.slice sa sl sc) := ra.cell 9; have raz := ra.lt
 
  go_wp2_with fail
  go_ret
  exact ⟨rfl, (by repeat' (first | with_reducible exact Below.refl _ _ | with_reducible assumption | with_reducible refine bel_drew ?_ | with_reducible refine bel_alloc ?_ _ | with_reducible refine bel_set ?_ ?_ _ | with_reducible refine bel_call ?_ (by assumption) | (dsimp only; omega) | (simp; done) | (simp; omega)))⟩
set_option maxHeartbeats 1000000 in
theorem reverts_main (k : Int) (key : Nat) (prev cur : V) (n b other : Int) (pb po pl pc : Nat) (p : V) (sa : Option Addr) (sl sc : Nat) (w : World) (hc : (⟨key, prev, cur, n⟩ : Cl).ok) (hp : p.ok) (hf : fitC k (⟨key, prev, cur, n⟩ : Cl) = true) (h1 : ¬ b ≤ n) (hb : -9223372036854775808 ≤ b ∧ b ≤ 9223372036854775807) (hl : 0 < pl) (hlt : pb < w.heap.size) (hx0 : w.cell? ⟨pb, po, none⟩ = some (.bool p.has)) (hx1 : w.cell? ⟨pb, po + 1, none⟩ = some (.int .u64 p.bits)) :
    Calls Try.prog 5 #[.agg #[.int .i64 k, .int .u64 key, .bool prev.has, .int .u64 prev.bits, .bool cur.has, .int .u64 cur.bits, .int .i64 n, .int .i64 b, .slice (some ⟨pb, po, none⟩) pl pc, .slice sa sl sc], .int .i64 other] w fun e w' => e = .returned (.bool true) ∧ Below w.heap.size w w' := by
  have C1 := Lib.hid awake_any
  have c2 := fun w => cfit_any k (⟨key, prev, cur, n⟩ : Cl) w hc
  rw [hf] at c2
  have C2 := Lib.hid c2
  have hk : known k = true := by unfold fitC at hf; simp only [Bool.and_eq_true] at hf; exact hf.1.1.1.1
  have hn : 0 ≤ n := by unfold fitC at hf; simp only [Bool.and_eq_true, decide_eq_true_eq] at hf; exact hf.1.2
  have c3 := fun w => apply_new k key prev cur n b p w hk (by omega) (by omega) hc.2 hp
  generalize merge k cur p = m at *
  have c4 := fun w => revert_any ⟨key, cur, m, b⟩ b w ⟨by dsimp only; omega, by dsimp only; omega⟩
  have e4 : revertC ⟨key, cur, m, b⟩ b = ⟨key, cur, cur, b - 1⟩ := by unfold revertC; rw [if_pos ⟨rfl, by omega⟩]
  rw [e4] at c4
  have c5 := fun w => revert_any ⟨key, cur, m, b⟩ other w ⟨by dsimp only; omega, by dsimp only; omega⟩
  have e5 : (other != b) = true → revertC ⟨key, cur, m, b⟩ other = ⟨key, cur, m, b⟩ := fun h => by
    have h' : other ≠ b := by simpa using h
    unfold revertC; rw [if_neg (fun x => h' x.1)]
  have c6 := fun w => revert_any ⟨key, cur, cur, b - 1⟩ b w ⟨by dsimp only; omega, by dsimp only; omega⟩
  have e6 : revertC ⟨key, cur, cur, b - 1⟩ b = ⟨key, cur, cur, b - 1⟩ := by
    unfold revertC; rw [if_neg (fun x => by have := x.1; dsimp only at this; omega)]
  rw [e6] at c6
  have c7 := fun w => empty_any ⟨key, cur, cur, b - 1⟩ w
  have e7 : emptyC ⟨key, cur, cur, b - 1⟩ = !cur.has := by unfold emptyC; simp
  rw [e7] at c7
  dsimp only at c4 c5 c6 c7 e5
  have h2 : ((pl : Int) == 0) = false := by simp; omega
  have h3 : (0 : Int) < (pl : Int) := by omega
  have b1 : b ≤ 9223372036854775807 := hb.2
  have b2 : 1 ≤ b := by omega
  have h4 : n < b := by omega
  have h5 : IntKind.i64.wrap (b - 1) = b - 1 := Go.IntWalk.i64_in _ (by omega)
  have h6 : (b - 1 != b - 1) = false := by simp
  have C3 := Lib.hid c3
  have C4 := Lib.hid c4
  have C6 := Lib.hid c6
  have C7 := Lib.hid c7
  have hlt2 := Lib.hid hlt
  cases ho : (other != b)
  all_goals
    first | rw [e5 ho] at c5 | skip
    have C5 := Lib.hid c5
    clear c2 hf hc c3 c4 c5 c6 c7 e4 e5 e6 e7 hk hp hb hn h1 hlt
    go_enter Try.func5, Try.ntmps5
    go_wp2_with fail
    refine (C1.out _).mono ?_
    rintro e w1 ⟨rfl, hb1⟩
    have qa : Blk w1 (w.heap.size) [.int .i64 k, .int .u64 key, .bool prev.has, .int .u64 prev.bits, .bool cur.has, .int .u64 cur.bits, .int .i64 n, .int .i64 b, .slice (some ⟨pb, po, none⟩) pl pc, .slice sa sl sc] 43 := (Blk.new _ _ rfl).below hb1; have qac0 : w1.cell? ⟨w.heap.size, 0, none⟩ = some (.int .i64 k) := qa.cell 0; have qac1 : w1.cell? ⟨w.heap.size, 1, none⟩ = some (.int .u64 key) := qa.cell 1; have qac2 : w1.cell? ⟨w.heap.size, 2, none⟩ = some (.bool prev.has) := qa.cell 2; have qac3 : w1.cell? ⟨w.heap.size, 3, none⟩ = some (.int .u64 prev.bits) := qa.cell 3; have qac4 : w1.cell? ⟨w.heap.size, 4, none⟩ = some (.bool cur.has) := qa.cell 4; have qac5 : w1.cell? ⟨w.heap.size, 5, none⟩ = some (.int .u64 cur.bits) := qa.cell 5; have qac6 : w1.cell? ⟨w.heap.size, 6, none⟩ = some (.int .i64 n) := qa.cell 6; have qac7 : w1.cell? ⟨w.heap.size, 7, none⟩ = some (.int .i64 b) := qa.cell 7; have qac8 : w1.cell? ⟨w.heap.size, 8, none⟩ = some (.slice (some ⟨pb, po, none⟩) pl pc) := qa.cell 8; have qac9 : w1.cell? ⟨w.heap.size, 9, none⟩ = some (.slice sa sl sc) := qa.cell 9; have qaf0 : w1.frozen? ⟨w.heap.size, 0, none⟩ = false := qa.free 0; have qaf1 : w1.frozen? ⟨w.heap.size, 1, none⟩ = false := qa.free 1; have qaf2 : w1.frozen? ⟨w.heap.size, 2, none⟩ = false := qa.free 2; have qaf3 : w1.frozen? ⟨w.heap.size, 3, none⟩ = false := qa.free 3; have qaf4 : w1.frozen? ⟨w.heap.size, 4, none⟩ = false := qa.free 4; have qaf5 : w1.frozen? ⟨w.heap.size, 5, none⟩ = false := qa.free 5; have qaf6 : w1.frozen? ⟨w.heap.size, 6, none⟩ = false := qa.free 6; have qaf7 : w1.frozen? ⟨w.heap.size, 7, none⟩ = false := qa.free 7; have qaf8 : w1.frozen? ⟨w.heap.size, 8, none⟩ = false := qa.free 8; have qaf9 : w1.frozen? ⟨w.heap.size, 9, none⟩ = false := qa.free 9; have qaz := qa.lt
    have p1 : Below w.heap.size w w1 := (by repeat' (first | with_reducible exact Below.refl _ _ | with_reducible assumption | with_reducible refine bel_drew ?_ | with_reducible refine bel_alloc ?_ _ | with_reducible refine bel_set ?_ ?_ _ | with_reducible refine bel_call ?_ (by assumption) | (dsimp only; omega) | (simp; done) | (simp; omega)))
    clear hb1
    go_wp2_with fail
    refine (C2.out _).mono ?_
    rintro e w2 ⟨rfl, hb2⟩
    have p2 : Below w.heap.size w w2 := (by repeat' (first | with_reducible exact Below.refl _ _ | with_reducible assumption | with_reducible refine bel_drew ?_ | with_reducible refine bel_alloc ?_ _ | with_reducible refine bel_set ?_ ?_ _ | with_reducible refine bel_call ?_ (by assumption) | (dsimp only; omega) | (simp; done) | (simp; omega)))
    have ra := qa.below hb2
    clear qa qac0 qac1 qac2 qac3 qac4 qac5 qac6 qac7 qac8 qac9 qaf0 qaf1 qaf2 qaf3 qaf4 qaf5 qaf6 qaf7 qaf8 qaf9 qaz hb2 p1
    have rac0 : w2.cell? ⟨w.heap.size, 0, none⟩ = some (.int .i64 k) := ra.cell 0; have rac1 : w2.cell? ⟨w.heap.size, 1, none⟩ = some (.int .u64 key) := ra.cell 1; have rac2 : w2.cell? ⟨w.heap.size, 2, none⟩ = some (.bool prev.has) := ra.cell 2; have rac3 : w2.cell? ⟨w.heap.size, 3, none⟩ = some (.int .u64 prev.bits) := ra.cell 3; have rac4 : w2.cell? ⟨w.heap.size, 4, none⟩ = some (.bool cur.has) := ra.cell 4; have rac5 : w2.cell? ⟨w.heap.size, 5, none⟩ = some (.int .u64 cur.bits) := ra.cell 5; have rac6 : w2.cell? ⟨w.heap.size, 6, none⟩ = some (.int .i64 n) := ra.cell 6; have rac7 : w2.cell? ⟨w.heap.size, 7, none⟩ = some (.int .i64 b) := ra.cell 7; have rac8 : w2.cell? ⟨w.heap.size, 8, none⟩ = some (.slice (some ⟨pb, po, none⟩) pl pc) := ra.cell 8; have rac9 : w2.cell? ⟨w.heap.size, 9, none⟩ = some (.slice sa sl sc) := ra.cell 9; have raz := ra.lt
    have x0 : w2.cell? ⟨pb, po, none⟩ = some (.bool p.has) := (p2.cell (p := ⟨pb, po, none⟩) hlt2.out).trans hx0
    have x1 : w2.cell? ⟨pb, po + 1, none⟩ = some (.int .u64 p.bits) := (p2.cell (p := ⟨pb, po + 1, none⟩) hlt2.out).trans hx1
    have xz : pb < w2.heap.size := Nat.lt_of_lt_of_le hlt2.out p2.size
    go_wp2_with fail
    refine wp_region_ghost (NewC _ 14 15 [.int .u64 key, .bool cur.has, .int .u64 cur.bits, .bool m.has, .int .u64 m.bits, .int .i64 b] [.int .u64 0, .bool false, .int .u64 0, .bool false, .int .u64 0, .int .i64 0] 26) (by kernel_rfl) (by kernel_rfl) NewC.loc (.begin (Below.refl _ _).drew rfl) ?_
    refine lexg_val (fun _ => by rfl) ?_; apply Exists.intro; refine ⟨?_, ?_⟩; ((intro g L w' hU hT; have hT' := hT.upd (i := 0) (by decide) (by decide); obtain ⟨hc, hf⟩ := bcell hT.bel; clear hT hU; go_simp; exact rfl)); simp only [Act.put, List.setIfInBounds_toArray, List.set_cons_zero, List.set_cons_succ]
    refine lexg_val (fun _ => by rfl) ?_; apply Exists.intro; refine ⟨?_, ?_⟩; ((intro g L w' hU hT; have hT' := hT.upd (i := 1) (by decide) (by decide); obtain ⟨hc, hf⟩ := bcell hT.bel; clear hT hU; go_simp; exact rfl)); simp only [Act.put, List.setIfInBounds_toArray, List.set_cons_zero, List.set_cons_succ]
    refine lexg_val (fun _ => by rfl) ?_; apply Exists.intro; refine ⟨?_, ?_⟩; ((intro g L w' hU hT; have hT' := hT.upd (i := 2) (by decide) (by decide); obtain ⟨hc, hf⟩ := bcell hT.bel; clear hT hU; go_simp; exact rfl)); simp only [Act.put, List.setIfInBounds_toArray, List.set_cons_zero, List.set_cons_succ]
    refine lexg_val (fun _ => by rfl) ?_; apply Exists.intro; refine ⟨?_, ?_⟩; ((intro g L w' hU hT; have hT' := hT.upd (i := 3) (by decide) (by decide); obtain ⟨hc, hf⟩ := bcell hT.bel; clear hT hU; go_simp; exact rfl)); simp only [Act.put, List.setIfInBounds_toArray, List.set_cons_zero, List.set_cons_succ]
    refine lexg_val (fun _ => by rfl) ?_; apply Exists.intro; refine ⟨?_, ?_⟩; ((intro g L w' hU hT; have hT' := hT.upd (i := 4) (by decide) (by decide); obtain ⟨hc, hf⟩ := bcell hT.bel; clear hT hU; go_simp; exact rfl)); simp only [Act.put, List.setIfInBounds_toArray, List.set_cons_zero, List.set_cons_succ]
    refine lexg_val (fun _ => by rfl) ?_; apply Exists.intro; refine ⟨?_, ?_⟩; ((intro g L w' hU hT; have hT' := hT.upd (i := 5) (by decide) (by decide); obtain ⟨hc, hf⟩ := bcell hT.bel; clear hT hU; go_simp; exact rfl)); simp only [Act.put, List.setIfInBounds_toArray, List.set_cons_zero, List.set_cons_succ]
    refine lexg_val (fun _ => by rfl) ?_; apply Exists.intro; refine ⟨?_, ?_⟩; ((intro g L w' hU hT; have hT' := hT.upd (i := 6) (by decide) (by decide); obtain ⟨hc, hf⟩ := bcell hT.bel; clear hT hU; go_simp; exact rfl)); simp only [Act.put, List.setIfInBounds_toArray, List.set_cons_zero, List.set_cons_succ]
    refine lexg_val (fun _ => by rfl) ?_; apply Exists.intro; refine ⟨?_, ?_⟩; ((intro g L w' hU hT; have hT' := hT.upd (i := 7) (by decide) (by decide); obtain ⟨hc, hf⟩ := bcell hT.bel; clear hT hU; go_simp; exact rfl)); simp only [Act.put, List.setIfInBounds_toArray, List.set_cons_zero, List.set_cons_succ]
    refine lexg_val (fun _ => by rfl) ?_; apply Exists.intro; refine ⟨?_, ?_⟩; ((intro g L w' hU hT; have hT' := hT.upd (i := 8) (by decide) (by decide); obtain ⟨hc, hf⟩ := bcell hT.bel; clear hT hU; go_simp; exact rfl)); simp only [Act.put, List.setIfInBounds_toArray, List.set_cons_zero, List.set_cons_succ]
    refine lexg_val (fun _ => by rfl) ?_; apply Exists.intro; refine ⟨?_, ?_⟩; ((intro g L w' hU hT; have hT' := hT.upd (i := 9) (by decide) (by decide); obtain ⟨hc, hf⟩ := bcell hT.bel; clear hT hU; go_simp; exact rfl)); simp only [Act.put, List.setIfInBounds_toArray, List.set_cons_zero, List.set_cons_succ]
    refine lexg_val (fun _ => by rfl) ?_; apply Exists.intro; refine ⟨?_, ?_⟩; ((intro g L w' hU hT; have hT' := hT.upd (i := 10) (by decide) (by decide); obtain ⟨hc, hf⟩ := bcell hT.bel; clear hT hU; go_simp; first | exact rfl | exact (C3.out _).mono fun e w'' ⟨he, hb⟩ => ⟨he, hT'.next hb⟩)); simp only [Act.put, List.setIfInBounds_toArray, List.set_cons_zero, List.set_cons_succ]
    refine lexg_val (fun _ => by rfl) ?_; apply Exists.intro; refine ⟨?_, ?_⟩; ((intro g L w' hU hT; have hT' := hT.upd (i := 11) (by decide) (by decide); obtain ⟨hc, hf⟩ := bcell hT.bel; clear hT hU; go_simp; exact rfl)); simp only [Act.put, List.setIfInBounds_toArray, List.set_cons_zero, List.set_cons_succ]
    refine lexg_val (fun _ => by rfl) ?_; apply Exists.intro; refine ⟨?_, ?_⟩; ((intro g L w' hU hT; have hT' := hT.upd (i := 12) (by decide) (by decide); obtain ⟨hc, hf⟩ := bcell hT.bel; clear hT hU; go_simp; exact rfl)); simp only [Act.put, List.setIfInBounds_toArray, List.set_cons_zero, List.set_cons_succ]
    refine lexg_val (fun _ => by rfl) ?_; apply Exists.intro; refine ⟨?_, ?_⟩; ((intro g L w' hU hT; have hT' := hT.upd (i := 13) (by decide) (by decide); obtain ⟨hc, hf⟩ := bcell hT.bel; clear hT hU; go_simp; exact rfl)); simp only [Act.put, List.setIfInBounds_toArray, List.set_cons_zero, List.set_cons_succ]
    refine lexg_alloc (fun b => .pointer (some ⟨b, 0, none⟩)) (fun _ => by rfl) ?_ ?_; ((intro g L w' hU hT; refine ⟨w'.heap.size, _, ?_, hT.alloc (hU.closed.no (j := 15) rfl (by kernel_rfl) hU.not) (by decide)⟩; clear hT hU; go_simp)); simp only [Nat.reduceAdd]; simp only [Act.put, List.setIfInBounds_toArray, List.set_cons_zero, List.set_cons_succ]
    refine lexg_op (fun _ => by rfl) ?_; refine ⟨fun _ => undef, ?_, known_const _ _, ?_⟩; ((intro g L w' hU hT; have hK : L 14 = true := hU.yes (m := 14) rfl (by kernel_rfl); have hL := hU.not; have hT' := hT.store hK hL rfl; have hB := (hT.blk hK).2; rw [hL, if_neg (by decide)] at hB; have zc0 := hB.cell 0; have zf0 := hB.free 0; have zc1 := hB.cell 1; have zf1 := hB.free 1; have zc2 := hB.cell 2; have zf2 := hB.free 2; have zc3 := hB.cell 3; have zf3 := hB.free 3; have zc4 := hB.cell 4; have zf4 := hB.free 4; have zc5 := hB.cell 5; have zf5 := hB.free 5; simp only [List.getElem?_cons_zero, List.getElem?_cons_succ] at zc0 zc1 zc2 zc3 zc4 zc5; clear hT hU hK; go_simp; first | exact hT' | exact ⟨hT', rfl⟩)); simp only [Act.put]
    refine lexg_val (fun _ => by rfl) ?_; apply Exists.intro; refine ⟨?_, ?_⟩; ((intro g L w' hU hT; have hT' := hT.upd (i := 16) (by decide) (by decide); obtain ⟨hc, hf⟩ := bcell hT.bel; clear hT hU; go_simp; exact rfl)); simp only [Act.put, List.setIfInBounds_toArray, List.set_cons_zero, List.set_cons_succ]
    refine lexg_nil ?_; intro g w3 hT; have bel_w3 := hT.bel; have n_w3 := (hT.blk rfl).1; have q_w3 := (hT.blk rfl).2; clear hT; rw [if_pos rfl] at q_w3; dsimp only; generalize g 14 = b3 at *; clear g
    have p3 : Below w.heap.size w w3 := (by repeat' (first | with_reducible exact Below.refl _ _ | with_reducible assumption | with_reducible refine bel_drew ?_ | with_reducible refine bel_alloc ?_ _ | with_reducible refine bel_set ?_ ?_ _ | with_reducible refine bel_call ?_ (by assumption) | (dsimp only; omega) | (simp; done) | (simp; omega)))
    have rb := ra.below bel_w3
    clear ra rac0 rac1 rac2 rac3 rac4 rac5 rac6 rac7 rac8 rac9 raz x0 x1 xz p2 bel_w3 n_w3 C1 C2 C3
    have rbc0 : w3.cell? ⟨w.heap.size, 0, none⟩ = some (.int .i64 k) := rb.cell 0; have rbc1 : w3.cell? ⟨w.heap.size, 1, none⟩ = some (.int .u64 key) := rb.cell 1; have rbc2 : w3.cell? ⟨w.heap.size, 2, none⟩ = some (.bool prev.has) := rb.cell 2; have rbc3 : w3.cell? ⟨w.heap.size, 3, none⟩ = some (.int .u64 prev.bits) := rb.cell 3; have rbc4 : w3.cell? ⟨w.heap.size, 4, none⟩ = some (.bool cur.has) := rb.cell 4; have rbc5 : w3.cell? ⟨w.heap.size, 5, none⟩ = some (.int .u64 cur.bits) := rb.cell 5; have rbc6 : w3.cell? ⟨w.heap.size, 6, none⟩ = some (.int .i64 n) := rb.cell 6; have rbc7 : w3.cell? ⟨w.heap.size, 7, none⟩ = some (.int .i64 b) := rb.cell 7; have rbc8 : w3.cell? ⟨w.heap.size, 8, none⟩ = some (.slice (some ⟨pb, po, none⟩) pl pc) := rb.cell 8; have rbc9 : w3.cell? ⟨w.heap.size, 9, none⟩ = some (.slice sa sl sc) := rb.cell 9; have rbz := rb.lt
    have q_w3c0 : w3.cell? ⟨b3, 0, none⟩ = some (.int .u64 key) := q_w3.cell 0; have q_w3c1 : w3.cell? ⟨b3, 1, none⟩ = some (.bool cur.has) := q_w3.cell 1; have q_w3c2 : w3.cell? ⟨b3, 2, none⟩ = some (.int .u64 cur.bits) := q_w3.cell 2; have q_w3c3 : w3.cell? ⟨b3, 3, none⟩ = some (.bool m.has) := q_w3.cell 3; have q_w3c4 : w3.cell? ⟨b3, 4, none⟩ = some (.int .u64 m.bits) := q_w3.cell 4; have q_w3c5 : w3.cell? ⟨b3, 5, none⟩ = some (.int .i64 b) := q_w3.cell 5; have q_w3z := q_w3.lt
    go_wp2_with fail
    refine (C4.out _).mono ?_
    rintro e w4 ⟨rfl, hb4⟩
    have p4 : Below w.heap.size w w4 := (by repeat' (first | with_reducible exact Below.refl _ _ | with_reducible assumption | with_reducible refine bel_drew ?_ | with_reducible refine bel_alloc ?_ _ | with_reducible refine bel_set ?_ ?_ _ | with_reducible refine bel_call ?_ (by assumption) | (dsimp only; omega) | (simp; done) | (simp; omega)))
    have rc := rb.below hb4
    have rd := q_w3.below hb4
    clear rb rbc0 rbc1 rbc2 rbc3 rbc4 rbc5 rbc6 rbc7 rbc8 rbc9 rbz q_w3 q_w3c0 q_w3c1 q_w3c2 q_w3c3 q_w3c4 q_w3c5 q_w3z hb4 p3
    have rcc0 : w4.cell? ⟨w.heap.size, 0, none⟩ = some (.int .i64 k) := rc.cell 0; have rcc1 : w4.cell? ⟨w.heap.size, 1, none⟩ = some (.int .u64 key) := rc.cell 1; have rcc2 : w4.cell? ⟨w.heap.size, 2, none⟩ = some (.bool prev.has) := rc.cell 2; have rcc3 : w4.cell? ⟨w.heap.size, 3, none⟩ = some (.int .u64 prev.bits) := rc.cell 3; have rcc4 : w4.cell? ⟨w.heap.size, 4, none⟩ = some (.bool cur.has) := rc.cell 4; have rcc5 : w4.cell? ⟨w.heap.size, 5, none⟩ = some (.int .u64 cur.bits) := rc.cell 5; have rcc6 : w4.cell? ⟨w.heap.size, 6, none⟩ = some (.int .i64 n) := rc.cell 6; have rcc7 : w4.cell? ⟨w.heap.size, 7, none⟩ = some (.int .i64 b) := rc.cell 7; have rcc8 : w4.cell? ⟨w.heap.size, 8, none⟩ = some (.slice (some ⟨pb, po, none⟩) pl pc) := rc.cell 8; have rcc9 : w4.cell? ⟨w.heap.size, 9, none⟩ = some (.slice sa sl sc) := rc.cell 9; have rcz := rc.lt
    have rdc0 : w4.cell? ⟨b3, 0, none⟩ = some (.int .u64 key) := rd.cell 0; have rdc1 : w4.cell? ⟨b3, 1, none⟩ = some (.bool cur.has) := rd.cell 1; have rdc2 : w4.cell? ⟨b3, 2, none⟩ = some (.int .u64 cur.bits) := rd.cell 2; have rdc3 : w4.cell? ⟨b3, 3, none⟩ = some (.bool m.has) := rd.cell 3; have rdc4 : w4.cell? ⟨b3, 4, none⟩ = some (.int .u64 m.bits) := rd.cell 4; have rdc5 : w4.cell? ⟨b3, 5, none⟩ = some (.int .i64 b) := rd.cell 5; have rdz := rd.lt
    go_wp2_with fail
    refine wp_region_below (by kernel_rfl) (by kernel_rfl) ?_
    iterate 15 (first | (refine lex_skip (by rfl) (fun _ _ _ _ h => h) ?_; simp only [Act.put, List.setIfInBounds_toArray, List.set_cons_zero, List.set_cons_succ]) | (refine lex_op (by rfl) ?_; apply Exists.intro; refine ⟨?_, ?_⟩; ((intro _ _ _ _ hT; obtain ⟨hc, hf⟩ := bcell hT; go_simp; first | exact rfl | exact call_below hT (C5.out _))); simp only [Act.put, List.setIfInBounds_toArray, List.set_cons_zero, List.set_cons_succ]))
    refine lex_nil ?_
    intro w5 hb5
    obtain ⟨hc5, hf5⟩ := bcell hb5
    have p5 : Below w.heap.size w w5 := (by repeat' (first | with_reducible exact Below.refl _ _ | with_reducible assumption | with_reducible refine bel_drew ?_ | with_reducible refine bel_alloc ?_ _ | with_reducible refine bel_set ?_ ?_ _ | with_reducible refine bel_call ?_ (by assumption) | (dsimp only; omega) | (simp; done) | (simp; omega)))
    have z5 : w4.heap.size < w5.heap.size := by have := hb5.size; simp at this; omega
    have y5 : w.heap.size < w5.heap.size := by omega
    have v5 : b3 < w5.heap.size := by omega
    go_wp2_with fail
    refine wp_region_below (by kernel_rfl) (by kernel_rfl) ?_
    iterate 38 (first | (refine lex_skip (by rfl) (fun _ _ _ _ h => h) ?_; simp only [Act.put, List.setIfInBounds_toArray, List.set_cons_zero, List.set_cons_succ]) | (refine lex_op (by rfl) ?_; apply Exists.intro; refine ⟨?_, ?_⟩; ((intro _ _ _ _ hT; obtain ⟨hc, hf⟩ := bcell hT; go_simp; first | exact rfl | exact call_below hT (C6.out _))); simp only [Act.put, List.setIfInBounds_toArray, List.set_cons_zero, List.set_cons_succ]))
    refine lex_nil ?_
    intro w6 hb6
    obtain ⟨hc6, hf6⟩ := bcell hb6
    have p6 : Below w.heap.size w w6 := (by repeat' (first | with_reducible exact Below.refl _ _ | with_reducible assumption | with_reducible refine bel_drew ?_ | with_reducible refine bel_alloc ?_ _ | with_reducible refine bel_set ?_ ?_ _ | with_reducible refine bel_call ?_ (by assumption) | (dsimp only; omega) | (simp; done) | (simp; omega)))
    have z6 : w4.heap.size < w6.heap.size := by have := hb6.size; omega
    have y6 : w.heap.size < w6.heap.size := by omega
    go_wp2_with fail
    refine wp_region_below (by kernel_rfl) (by kernel_rfl) ?_
    iterate 9 (first | (refine lex_skip (by rfl) (fun _ _ _ _ h => h) ?_; simp only [Act.put, List.setIfInBounds_toArray, List.set_cons_zero, List.set_cons_succ]) | (refine lex_op (by rfl) ?_; apply Exists.intro; refine ⟨?_, ?_⟩; ((intro _ _ _ _ hT; obtain ⟨hc, hf⟩ := bcell hT; go_simp; first | exact rfl | exact call_below hT (C7.out _))); simp only [Act.put, List.setIfInBounds_toArray, List.set_cons_zero, List.set_cons_succ]))
    refine lex_nil ?_
    intro w7 hb7
    have p7 : Below w.heap.size w w7 := (by repeat' (first | with_reducible exact Below.refl _ _ | with_reducible assumption | with_reducible refine bel_drew ?_ | with_reducible refine bel_alloc ?_ _ | with_reducible refine bel_set ?_ ?_ _ | with_reducible refine bel_call ?_ (by assumption) | (dsimp only; omega) | (simp; done) | (simp; omega)))
    go_wp2_with fail
    go_ret
    exact ⟨rfl, (by repeat' (first | with_reducible exact Below.refl _ _ | with_reducible assumption | with_reducible refine bel_drew ?_ | with_reducible refine bel_alloc ?_ _ | with_reducible refine bel_set ?_ ?_ _ | with_reducible refine bel_call ?_ (by assumption) | (dsimp only; omega) | (simp; done) | (simp; omega)))⟩
end Go.Proofs.Ytelofaceadlfmaa
