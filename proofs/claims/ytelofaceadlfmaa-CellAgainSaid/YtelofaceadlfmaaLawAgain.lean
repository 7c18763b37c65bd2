/- WALK of CellAgain. -/
import Derived.Test.YtelofaceadlfmaaLawRow
import Derived.Test.YtelofaceadlfmaaOpenSl
import Derived.Deep.LoopGhost
namespace Go.Proofs.Ytelofaceadlfmaa
open Go.RowKit
open Fl (known fit merge V Cl applyC applyE revertC resolveC emptyC fitC)

set_option maxRecDepth 100000 in
set_option maxHeartbeats 1000000 in
theorem again_unfit (k : Int) (key : Nat) (prev cur : V) (n b : Int) (s0 : Value) (sa : Option Addr) (sl sc : Nat) (w : World) (hc : (⟨key, prev, cur, n⟩ : Cl).ok) (hf : fitC k (⟨key, prev, cur, n⟩ : Cl) = false) :
    Calls Try.prog 4 #[.agg #[.int .i64 k, .int .u64 key, .bool prev.has, .int .u64 prev.bits, .bool cur.has, .int .u64 cur.bits, .int .i64 n, .int .i64 b, s0, .slice sa sl sc]] w fun e w' => e = .returned (.bool true) ∧ Below w.heap.size w w' := by
  have C1 := Lib.hid awake_any
  have c2 := fun w => cfit_any k (⟨key, prev, cur, n⟩ : Cl) w hc
  rw [hf] at c2
  have C2 := Lib.hid c2
  clear c2 hf hc
  go_enter Try.func4, Try.ntmps4
  go_wp2_with fail
  refine (C1.out _).mono ?_
  rintro e w1 ⟨rfl, hb1⟩
  have qa : Blk w1 (w.heap.size) [.int .i64 k, .int .u64 key, .bool prev.has, .int .u64 prev.bits, .bool cur.has, .int .u64 cur.bits, .int .i64 n, .int .i64 b, s0, .slice sa sl sc] 43 := (Blk.new _ _ rfl).below hb1; have qac0 : w1.cell? ⟨w.heap.size, 0, none⟩ = some (.int .i64 k) := qa.cell 0; have qac1 : w1.cell? ⟨w.heap.size, 1, none⟩ = some (.int .u64 key) := qa.cell 1; have qac2 : w1.cell? ⟨w.heap.size, 2, none⟩ = some (.bool prev.has) := qa.cell 2; have qac3 : w1.cell? ⟨w.heap.size, 3, none⟩ = some (.int .u64 prev.bits) := qa.cell 3; have qac4 : w1.cell? ⟨w.heap.size, 4, none⟩ = some (.bool cur.has) := qa.cell 4; have qac5 : w1.cell? ⟨w.heap.size, 5, none⟩ = some (.int .u64 cur.bits) := qa.cell 5; have qac6 : w1.cell? ⟨w.heap.size, 6, none⟩ = some (.int .i64 n) := qa.cell 6; have qac7 : w1.cell? ⟨w.heap.size, 7, none⟩ = some (.int .i64 b) := qa.cell 7; have qac8 : w1.cell? ⟨w.heap.size, 8, none⟩ = some (s0) := qa.cell 8; have qac9 : w1.cell? ⟨w.heap.size, 9, none⟩ = some (.slice sa sl sc) := qa.cell 9; have qaf0 : w1.frozen? ⟨w.heap.size, 0, none⟩ = false := qa.free 0; have qaf1 : w1.frozen? ⟨w.heap.size, 1, none⟩ = false := qa.free 1; have qaf2 : w1.frozen? ⟨w.heap.size, 2, none⟩ = false := qa.free 2; have qaf3 : w1.frozen? ⟨w.heap.size, 3, none⟩ = false := qa.free 3; have qaf4 : w1.frozen? ⟨w.heap.size, 4, none⟩ = false := qa.free 4; have qaf5 : w1.frozen? ⟨w.heap.size, 5, none⟩ = false := qa.free 5; have qaf6 : w1.frozen? ⟨w.heap.size, 6, none⟩ = false := qa.free 6; have qaf7 : w1.frozen? ⟨w.heap.size, 7, none⟩ = false := qa.free 7; have qaf8 : w1.frozen? ⟨w.heap.size, 8, none⟩ = false := qa.free 8; have qaf9 : w1.frozen? ⟨w.heap.size, 9, none⟩ = false := qa.free 9; have qaz := qa.lt
  have p1 : Below w.heap.size w w1 := (by repeat' (first | with_reducible exact Below.refl _ _ | with_reducible assumption | with_reducible refine bel_drew ?_ | with_reducible refine bel_alloc ?_ _ | with_reducible refine bel_set ?_ ?_ _ | with_reducible refine bel_call ?_ (by assumption) | (dsimp only; omega) | (simp; done) | (simp; omega)))
  clear hb1
  go_wp2_with fail
  refine (C2.out _).mono ?_
  rintro e w2 ⟨rfl, hb2⟩
  have p2 : Below w.heap.size w w2 := (by repeat' (first | with_reducible exact Below.refl _ _ | with_reducible assumption | with_reducible refine bel_drew ?_ | with_reducible refine bel_alloc ?_ _ | with_reducible refine bel_set ?_ ?_ _ | with_reducible refine bel_call ?_ (by assumption) | (dsimp only; omega) | (simp; done) | (simp; omega)))
  have ra := qa.below hb2
  clear qa qac0 qac1 qac2 qac3 qac4 qac5 qac6 qac7 qac8 qac9 qaf0 qaf1 qaf2 qaf3 qaf4 qaf5 qaf6 qaf7 qaf8 qaf9 qaz hb2 p1
  have rac0 : w2.cell? ⟨w.heap.size, 0, none⟩ = some (.int .i64 k) := ra.cell 0; have rac1 : w2.cell? ⟨w.heap.size, 1, none⟩ = some (.int .u64 key) := ra.cell 1; have rac2 : w2.cell? ⟨w.heap.size, 2, none⟩ = some (.bool prev.has) := ra.cell 2; have rac3 : w2.cell? ⟨w.heap.size, 3, none⟩ = some (.int .u64 prev.bits) := ra.cell 3; have rac4 : w2.cell? ⟨w.heap.size, 4, none⟩ = some (.bool cur.has) := ra.cell 4; have rac5 : w2.cell? ⟨w.heap.size, 5, none⟩ = some (.int .u64 cur.bits) := ra.cell 5; have rac6 : w2.cell? ⟨w.heap.size, 6, none⟩ = some (.int .i64 n) := ra.cell 6; have rac7 : w2.cell? ⟨w.heap.size, 7, none⟩ = some (.int .i64 b) := ra.cell 7; have rac8 : w2.cell? ⟨w.heap.size, 8, none⟩ = some (s0) := ra.cell 8; have rac9 : w2.cell? ⟨w.heap.size, 9, none⟩ = some (.slice sa sl sc) := ra.cell 9; have raz := ra.lt
 
  go_wp2_with fail
  go_ret
  exact ⟨rfl, (by repeat' (first | with_reducible exact Below.refl _ _ | with_reducible assumption | with_reducible refine bel_drew ?_ | with_reducible refine bel_alloc ?_ _ | with_reducible refine bel_set ?_ ?_ _ | with_reducible refine bel_call ?_ (by assumption) | (dsimp only; omega) | (simp; done) | (simp; omega)))⟩
set_option maxRecDepth 100000 in
set_option maxHeartbeats 1000000 in
theorem again_back (k : Int) (key : Nat) (prev cur : V) (n b : Int) (s0 : Value) (sa : Option Addr) (sl sc : Nat) (w : World) (hc : (⟨key, prev, cur, n⟩ : Cl).ok) (hf : fitC k (⟨key, prev, cur, n⟩ : Cl) = true) (h1 : b ≤ n) :
    Calls Try.prog 4 #[.agg #[.int .i64 k, .int .u64 key, .bool prev.has, .int .u64 prev.bits, .bool cur.has, .int .u64 cur.bits, .int .i64 n, .int .i64 b, s0, .slice sa sl sc]] w fun e w' => e = .returned (.bool true) ∧ Below w.heap.size w w' := by
  have C1 := Lib.hid awake_any
  have c2 := fun w => cfit_any k (⟨key, prev, cur, n⟩ : Cl) w hc
  rw [hf] at c2
  have C2 := Lib.hid c2
  clear c2 hf hc
  go_enter Try.func4, Try.ntmps4
  go_wp2_with fail
  refine (C1.out _).mono ?_
  rintro e w1 ⟨rfl, hb1⟩
  have qa : Blk w1 (w.heap.size) [.int .i64 k, .int .u64 key, .bool prev.has, .int .u64 prev.bits, .bool cur.has, .int .u64 cur.bits, .int .i64 n, .int .i64 b, s0, .slice sa sl sc] 43 := (Blk.new _ _ rfl).below hb1; have qac0 : w1.cell? ⟨w.heap.size, 0, none⟩ = some (.int .i64 k) := qa.cell 0; have qac1 : w1.cell? ⟨w.heap.size, 1, none⟩ = some (.int .u64 key) := qa.cell 1; have qac2 : w1.cell? ⟨w.heap.size, 2, none⟩ = some (.bool prev.has) := qa.cell 2; have qac3 : w1.cell? ⟨w.heap.size, 3, none⟩ = some (.int .u64 prev.bits) := qa.cell 3; have qac4 : w1.cell? ⟨w.heap.size, 4, none⟩ = some (.bool cur.has) := qa.cell 4; have qac5 : w1.cell? ⟨w.heap.size, 5, none⟩ = some (.int .u64 cur.bits) := qa.cell 5; have qac6 : w1.cell? ⟨w.heap.size, 6, none⟩ = some (.int .i64 n) := qa.cell 6; have qac7 : w1.cell? ⟨w.heap.size, 7, none⟩ = some (.int .i64 b) := qa.cell 7; have qac8 : w1.cell? ⟨w.heap.size, 8, none⟩ = some (s0) := qa.cell 8; have qac9 : w1.cell? ⟨w.heap.size, 9, none⟩ = some (.slice sa sl sc) := qa.cell 9; have qaf0 : w1.frozen? ⟨w.heap.size, 0, none⟩ = false := qa.free 0; have qaf1 : w1.frozen? ⟨w.heap.size, 1, none⟩ = false := qa.free 1; have qaf2 : w1.frozen? ⟨w.heap.size, 2, none⟩ = false := qa.free 2; have qaf3 : w1.frozen? ⟨w.heap.size, 3, none⟩ = false := qa.free 3; have qaf4 : w1.frozen? ⟨w.heap.size, 4, none⟩ = false := qa.free 4; have qaf5 : w1.frozen? ⟨w.heap.size, 5, none⟩ = false := qa.free 5; have qaf6 : w1.frozen? ⟨w.heap.size, 6, none⟩ = false := qa.free 6; have qaf7 : w1.frozen? ⟨w.heap.size, 7, none⟩ = false := qa.free 7; have qaf8 : w1.frozen? ⟨w.heap.size, 8, none⟩ = false := qa.free 8; have qaf9 : w1.frozen? ⟨w.heap.size, 9, none⟩ = false := qa.free 9; have qaz := qa.lt
  have p1 : Below w.heap.size w w1 := (by repeat' (first | with_reducible exact Below.refl _ _ | with_reducible assumption | with_reducible refine bel_drew ?_ | with_reducible refine bel_alloc ?_ _ | with_reducible refine bel_set ?_ ?_ _ | with_reducible refine bel_call ?_ (by assumption) | (dsimp only; omega) | (simp; done) | (simp; omega)))
  clear hb1
  go_wp2_with fail
  refine (C2.out _).mono ?_
  rintro e w2 ⟨rfl, hb2⟩
  have p2 : Below w.heap.size w w2 := (by repeat' (first | with_reducible exact Below.refl _ _ | with_reducible assumption | with_reducible refine bel_drew ?_ | with_reducible refine bel_alloc ?_ _ | with_reducible refine bel_set ?_ ?_ _ | with_reducible refine bel_call ?_ (by assumption) | (dsimp only; omega) | (simp; done) | (simp; omega)))
  have ra := qa.below hb2
  clear qa qac0 qac1 qac2 qac3 qac4 qac5 qac6 qac7 qac8 qac9 qaf0 qaf1 qaf2 qaf3 qaf4 qaf5 qaf6 qaf7 qaf8 qaf9 qaz hb2 p1
  have rac0 : w2.cell? ⟨w.heap.size, 0, none⟩ = some (.int .i64 k) := ra.cell 0; have rac1 : w2.cell? ⟨w.heap.size, 1, none⟩ = some (.int .u64 key) := ra.cell 1; have rac2 : w2.cell? ⟨w.heap.size, 2, none⟩ = some (.bool prev.has) := ra.cell 2; have rac3 : w2.cell? ⟨w.heap.size, 3, none⟩ = some (.int .u64 prev.bits) := ra.cell 3; have rac4 : w2.cell? ⟨w.heap.size, 4, none⟩ = some (.bool cur.has) := ra.cell 4; have rac5 : w2.cell? ⟨w.heap.size, 5, none⟩ = some (.int .u64 cur.bits) := ra.cell 5; have rac6 : w2.cell? ⟨w.heap.size, 6, none⟩ = some (.int .i64 n) := ra.cell 6; have rac7 : w2.cell? ⟨w.heap.size, 7, none⟩ = some (.int .i64 b) := ra.cell 7; have rac8 : w2.cell? ⟨w.heap.size, 8, none⟩ = some (s0) := ra.cell 8; have rac9 : w2.cell? ⟨w.heap.size, 9, none⟩ = some (.slice sa sl sc) := ra.cell 9; have raz := ra.lt
 
  go_wp2_with fail
  go_ret
  exact ⟨rfl, (by repeat' (first | with_reducible exact Below.refl _ _ | with_reducible assumption | with_reducible refine bel_drew ?_ | with_reducible refine bel_alloc ?_ _ | with_reducible refine bel_set ?_ ?_ _ | with_reducible refine bel_call ?_ (by assumption) | (dsimp only; omega) | (simp; done) | (simp; omega)))⟩
set_option maxRecDepth 100000 in
set_option maxHeartbeats 1000000 in
theorem again_none (k : Int) (key : Nat) (prev cur : V) (n b : Int) (sa : Option Addr) (sl sc : Nat) (w : World) (s1 : Option Addr) (s3 : Nat) (hc : (⟨key, prev, cur, n⟩ : Cl).ok) (hf : fitC k (⟨key, prev, cur, n⟩ : Cl) = true) (h1 : ¬ b ≤ n) :
    Calls Try.prog 4 #[.agg #[.int .i64 k, .int .u64 key, .bool prev.has, .int .u64 prev.bits, .bool cur.has, .int .u64 cur.bits, .int .i64 n, .int .i64 b, .slice s1 0 s3, .slice sa sl sc]] w fun e w' => e = .returned (.bool true) ∧ Below w.heap.size w w' := by
  have C1 := Lib.hid awake_any
  have c2 := fun w => cfit_any k (⟨key, prev, cur, n⟩ : Cl) w hc
  rw [hf] at c2
  have C2 := Lib.hid c2
  clear c2 hf hc
  go_enter Try.func4, Try.ntmps4
  go_wp2_with fail
  refine (C1.out _).mono ?_
  rintro e w1 ⟨rfl, hb1⟩
  have qa : Blk w1 (w.heap.size) [.int .i64 k, .int .u64 key, .bool prev.has, .int .u64 prev.bits, .bool cur.has, .int .u64 cur.bits, .int .i64 n, .int .i64 b, .slice s1 0 s3, .slice sa sl sc] 43 := (Blk.new _ _ rfl).below hb1; have qac0 : w1.cell? ⟨w.heap.size, 0, none⟩ = some (.int .i64 k) := qa.cell 0; have qac1 : w1.cell? ⟨w.heap.size, 1, none⟩ = some (.int .u64 key) := qa.cell 1; have qac2 : w1.cell? ⟨w.heap.size, 2, none⟩ = some (.bool prev.has) := qa.cell 2; have qac3 : w1.cell? ⟨w.heap.size, 3, none⟩ = some (.int .u64 prev.bits) := qa.cell 3; have qac4 : w1.cell? ⟨w.heap.size, 4, none⟩ = some (.bool cur.has) := qa.cell 4; have qac5 : w1.cell? ⟨w.heap.size, 5, none⟩ = some (.int .u64 cur.bits) := qa.cell 5; have qac6 : w1.cell? ⟨w.heap.size, 6, none⟩ = some (.int .i64 n) := qa.cell 6; have qac7 : w1.cell? ⟨w.heap.size, 7, none⟩ = some (.int .i64 b) := qa.cell 7; have qac8 : w1.cell? ⟨w.heap.size, 8, none⟩ = some (.slice s1 0 s3) := qa.cell 8; have qac9 : w1.cell? ⟨w.heap.size, 9, none⟩ = some (.slice sa sl sc) := qa.cell 9; have qaf0 : w1.frozen? ⟨w.heap.size, 0, none⟩ = false := qa.free 0; have qaf1 : w1.frozen? ⟨w.heap.size, 1, none⟩ = false := qa.free 1; have qaf2 : w1.frozen? ⟨w.heap.size, 2, none⟩ = false := qa.free 2; have qaf3 : w1.frozen? ⟨w.heap.size, 3, none⟩ = false := qa.free 3; have qaf4 : w1.frozen? ⟨w.heap.size, 4, none⟩ = false := qa.free 4; have qaf5 : w1.frozen? ⟨w.heap.size, 5, none⟩ = false := qa.free 5; have qaf6 : w1.frozen? ⟨w.heap.size, 6, none⟩ = false := qa.free 6; have qaf7 : w1.frozen? ⟨w.heap.size, 7, none⟩ = false := qa.free 7; have qaf8 : w1.frozen? ⟨w.heap.size, 8, none⟩ = false := qa.free 8; have qaf9 : w1.frozen? ⟨w.heap.size, 9, none⟩ = false := qa.free 9; have qaz := qa.lt
  have p1 : Below w.heap.size w w1 := (by repeat' (first | with_reducible exact Below.refl _ _ | with_reducible assumption | with_reducible refine bel_drew ?_ | with_reducible refine bel_alloc ?_ _ | with_reducible refine bel_set ?_ ?_ _ | with_reducible refine bel_call ?_ (by assumption) | (dsimp only; omega) | (simp; done) | (simp; omega)))
  clear hb1
  go_wp2_with fail
  refine (C2.out _).mono ?_
  rintro e w2 ⟨rfl, hb2⟩
  have p2 : Below w.heap.size w w2 := (by repeat' (first | with_reducible exact Below.refl _ _ | with_reducible assumption | with_reducible refine bel_drew ?_ | with_reducible refine bel_alloc ?_ _ | with_reducible refine bel_set ?_ ?_ _ | with_reducible refine bel_call ?_ (by assumption) | (dsimp only; omega) | (simp; done) | (simp; omega)))
  have ra := qa.below hb2
  clear qa qac0 qac1 qac2 qac3 qac4 qac5 qac6 qac7 qac8 qac9 qaf0 qaf1 qaf2 qaf3 qaf4 qaf5 qaf6 qaf7 qaf8 qaf9 qaz hb2 p1
  have rac0 : w2.cell? ⟨w.heap.size, 0, none⟩ = some (.int .i64 k) := ra.cell 0; have rac1 : w2.cell? ⟨w.heap.size, 1, none⟩ = some (.int .u64 key) := ra.cell 1; have rac2 : w2.cell? ⟨w.heap.size, 2, none⟩ = some (.bool prev.has) := ra.cell 2; have rac3 : w2.cell? ⟨w.heap.size, 3, none⟩ = some (.int .u64 prev.bits) := ra.cell 3; have rac4 : w2.cell? ⟨w.heap.size, 4, none⟩ = some (.bool cur.has) := ra.cell 4; have rac5 : w2.cell? ⟨w.heap.size, 5, none⟩ = some (.int .u64 cur.bits) := ra.cell 5; have rac6 : w2.cell? ⟨w.heap.size, 6, none⟩ = some (.int .i64 n) := ra.cell 6; have rac7 : w2.cell? ⟨w.heap.size, 7, none⟩ = some (.int .i64 b) := ra.cell 7; have rac8 : w2.cell? ⟨w.heap.size, 8, none⟩ = some (.slice s1 0 s3) := ra.cell 8; have rac9 : w2.cell? ⟨w.heap.size, 9, none⟩ = some (.slice sa sl sc) := ra.cell 9; have raz := ra.lt
 
  go_wp2_with fail
  go_ret
  exact ⟨rfl, (by repeat' (first | with_reducible exact Below.refl _ _ | with_reducible assumption | with_reducible refine bel_drew ?_ | with_reducible refine bel_alloc ?_ _ | with_reducible refine bel_set ?_ ?_ _ | with_reducible refine bel_call ?_ (by assumption) | (dsimp only; omega) | (simp; done) | (simp; omega)))⟩

section
variable {w : World} {b : Nat} {t : TypeId}
theorem Blk.c10 {a0 a1 a2 a3 a4 a5 a6 a7 a8 a9 : Value} (h : Blk w b [a0, a1, a2, a3, a4, a5, a6, a7, a8, a9] t) :
    w.cell? ⟨b, 0, none⟩ = some a0 ∧ w.cell? ⟨b, 1, none⟩ = some a1 ∧ w.cell? ⟨b, 2, none⟩ = some a2 ∧ w.cell? ⟨b, 3, none⟩ = some a3 ∧ w.cell? ⟨b, 4, none⟩ = some a4 ∧ w.cell? ⟨b, 5, none⟩ = some a5 ∧
    w.cell? ⟨b, 6, none⟩ = some a6 ∧ w.cell? ⟨b, 7, none⟩ = some a7 ∧ w.cell? ⟨b, 8, none⟩ = some a8 ∧ w.cell? ⟨b, 9, none⟩ = some a9 ∧ b < w.heap.size :=
  ⟨h.cell 0, h.cell 1, h.cell 2, h.cell 3, h.cell 4, h.cell 5, h.cell 6, h.cell 7, h.cell 8, h.cell 9, h.lt⟩
end
theorem ap_state (k : Int) (key : Nat) (cur : V) (b : Int) (p : V) (hk : known k = true) (h1 : 1 ≤ b) (hp : p.ok) (P C : V) (N : Int) (st : (N < b ∧ C = cur) ∨ (N = b ∧ P = cur)) (hc : cur.ok) (w : World) :
    Calls Try.prog 9 #[.int .i64 k, .agg #[.int .u64 key, .bool P.has, .int .u64 P.bits, .bool C.has, .int .u64 C.bits, .int .i64 N], .int .i64 b, .agg #[.bool p.has, .int .u64 p.bits]] w
      fun e w' => e = .returned (.tuple #[.agg #[.int .u64 key, .bool cur.has, .int .u64 cur.bits, .bool (merge k cur p).has, .int .u64 (merge k cur p).bits, .int .i64 b], .int .i64 0]) ∧ Below w.heap.size w w' := by
  rcases st with ⟨h, rfl⟩ | ⟨h, rfl⟩
  · exact apply_new k key P C N b p w hk (by omega) h hc hp
  · exact apply_again k key P C N b p w hk (by omega) h.symm hc hp
/-- what holds at the loop's head -/
structure AgJ (w : World) (k : Int) (at10 : List Value) (key : Nat) (cur : V) (b : Int) (f : Nat → V) (bc bn pl i : Nat) (P C : V) (N : Int) (wr : World) : Prop where
  bel : Below w.heap.size w wr
  att : Blk wr w.heap.size at10 43
  cell : Blk wr bc [.int .u64 key, .bool P.has, .int .u64 P.bits, .bool C.has, .int .u64 C.bits, .int .i64 N] 26
  now : Blk wr bn [.bool cur.has, .int .u64 cur.bits] 24
  st : (N < b ∧ C = cur) ∨ (N = b ∧ P = cur)
  last : i = pl → 0 < i → P = cur ∧ C = merge k cur (f (pl - 1)) ∧ N = b

set_option maxRecDepth 100000 in
set_option maxHeartbeats 20000000 in
theorem again_main (k : Int) (key : Nat) (prev cur : V) (n b : Int) (pb po pl pc : Nat) (f : Nat → V) (sa : Option Addr) (sl sc : Nat) (bb bo : Nat) (g : Nat → Bool) (w : World) (hc : (⟨key, prev, cur, n⟩ : Cl).ok) (hf : fitC k (⟨key, prev, cur, n⟩ : Cl) = true) (h1 : ¬ b ≤ n) (hb : -9223372036854775808 ≤ b ∧ b ≤ 9223372036854775807) (hl : 0 < pl) (hpl : pl ≤ 9223372036854775807) (hv : Vals w pb po pl f)
    (hsa : 0 < sl → sa = some ⟨bb, bo, none⟩) (hbk : 0 < sl → bb < w.heap.size ∧ ∀ i, i < sl → w.cell? ⟨bb, bo + i, none⟩ = some (.bool (g i))) :
    Calls Try.prog 4 #[.agg #[.int .i64 k, .int .u64 key, .bool prev.has, .int .u64 prev.bits, .bool cur.has, .int .u64 cur.bits, .int .i64 n, .int .i64 b, .slice (some ⟨pb, po, none⟩) pl pc, .slice sa sl sc]] w fun e w' => e = .returned (.bool true) ∧ Below w.heap.size w w' := by
  have C1 := Lib.hid awake_any
  have c2 := fun w => cfit_any k (⟨key, prev, cur, n⟩ : Cl) w hc
  rw [hf] at c2
  have C2 := Lib.hid c2
  have hk : known k = true := by unfold fitC at hf; simp only [Bool.and_eq_true] at hf; exact hf.1.1.1.1
  have hn : 0 ≤ n := by unfold fitC at hf; simp only [Bool.and_eq_true, decide_eq_true_eq] at hf; exact hf.1.2
  have hfc : fit k cur = cur := by unfold fitC at hf; simp only [Bool.and_eq_true, decide_eq_true_eq] at hf; exact hf.1.1.2
  obtain ⟨q, hq⟩ : ∃ q : Nat, pl = q + 1 := ⟨pl - 1, by omega⟩
  have h2 : ((pl : Int) == 0) = false := by simp; omega
  have h3 : (q : Int) < (pl : Int) := by omega
  have h31 : q < pl := by omega
  have h5 : IntKind.i64.wrap (b - 1) = b - 1 := Go.IntWalk.i64_in _ (by omega)
  have h6 : (b - 1 != b - 1) = false := by simp
  have h8 : IntKind.i64.wrap ((pl : Int) - 1) = (q : Int) := by rw [Go.IntWalk.i64_in _ (by omega)]; omega
  have H1 := Lib.hid hk
  have H2 := Lib.hid hc.2
  have H3 : Hid (n < b ∧ 1 ≤ b ∧ b ≤ 9223372036854775807 ∧ pl = q + 1 ∧ pl ≤ 9223372036854775807) := Lib.hid ⟨by omega, by omega, hb.2, hq, hpl⟩
  have H4 := Lib.hid hv
  have H5 := Lib.hid hsa
  have H6 := Lib.hid hbk
  have H7 := Lib.hid hfc
  have h4 : n < b := by omega
  clear c2 hf hc hk hn hfc hb h1 hv hsa hbk hq hpl hl
  go_enter Try.func4, Try.ntmps4
  go_wp2_with fail
  refine (C1.out _).mono ?_
  rintro e w1 ⟨rfl, hb1⟩
  have qa : Blk w1 (w.heap.size) [.int .i64 k, .int .u64 key, .bool prev.has, .int .u64 prev.bits, .bool cur.has, .int .u64 cur.bits, .int .i64 n, .int .i64 b, .slice (some ⟨pb, po, none⟩) pl pc, .slice sa sl sc] 43 := (Blk.new _ _ rfl).below hb1; have qac0 : w1.cell? ⟨w.heap.size, 0, none⟩ = some (.int .i64 k) := qa.cell 0; have qac1 : w1.cell? ⟨w.heap.size, 1, none⟩ = some (.int .u64 key) := qa.cell 1; have qac2 : w1.cell? ⟨w.heap.size, 2, none⟩ = some (.bool prev.has) := qa.cell 2; have qac3 : w1.cell? ⟨w.heap.size, 3, none⟩ = some (.int .u64 prev.bits) := qa.cell 3; have qac4 : w1.cell? ⟨w.heap.size, 4, none⟩ = some (.bool cur.has) := qa.cell 4; have qac5 : w1.cell? ⟨w.heap.size, 5, none⟩ = some (.int .u64 cur.bits) := qa.cell 5; have qac6 : w1.cell? ⟨w.heap.size, 6, none⟩ = some (.int .i64 n) := qa.cell 6; have qac7 : w1.cell? ⟨w.heap.size, 7, none⟩ = some (.int .i64 b) := qa.cell 7; have qac8 : w1.cell? ⟨w.heap.size, 8, none⟩ = some (.slice (some ⟨pb, po, none⟩) pl pc) := qa.cell 8; have qac9 : w1.cell? ⟨w.heap.size, 9, none⟩ = some (.slice sa sl sc) := qa.cell 9; have qaf0 : w1.frozen? ⟨w.heap.size, 0, none⟩ = false := qa.free 0; have qaf1 : w1.frozen? ⟨w.heap.size, 1, none⟩ = false := qa.free 1; have qaf2 : w1.frozen? ⟨w.heap.size, 2, none⟩ = false := qa.free 2; have qaf3 : w1.frozen? ⟨w.heap.size, 3, none⟩ = false := qa.free 3; have qaf4 : w1.frozen? ⟨w.heap.size, 4, none⟩ = false := qa.free 4; have qaf5 : w1.frozen? ⟨w.heap.size, 5, none⟩ = false := qa.free 5; have qaf6 : w1.frozen? ⟨w.heap.size, 6, none⟩ = false := qa.free 6; have qaf7 : w1.frozen? ⟨w.heap.size, 7, none⟩ = false := qa.free 7; have qaf8 : w1.frozen? ⟨w.heap.size, 8, none⟩ = false := qa.free 8; have qaf9 : w1.frozen? ⟨w.heap.size, 9, none⟩ = false := qa.free 9; have qaz := qa.lt
  have p1 : Below w.heap.size w w1 := (by repeat' (first | with_reducible exact Below.refl _ _ | with_reducible assumption | with_reducible refine bel_drew ?_ | with_reducible refine bel_alloc ?_ _ | with_reducible refine bel_set ?_ ?_ _ | with_reducible refine bel_call ?_ (by assumption) | (dsimp only; omega) | (simp; done) | (simp; omega)))
  clear hb1
  go_wp2_with fail
  refine (C2.out _).mono ?_
  rintro e w2 ⟨rfl, hb2⟩
  have p2 : Below w.heap.size w w2 := (by repeat' (first | with_reducible exact Below.refl _ _ | with_reducible assumption | with_reducible refine bel_drew ?_ | with_reducible refine bel_alloc ?_ _ | with_reducible refine bel_set ?_ ?_ _ | with_reducible refine bel_call ?_ (by assumption) | (dsimp only; omega) | (simp; done) | (simp; omega)))
  have ra := qa.below hb2
  clear qa qac0 qac1 qac2 qac3 qac4 qac5 qac6 qac7 qac8 qac9 qaf0 qaf1 qaf2 qaf3 qaf4 qaf5 qaf6 qaf7 qaf8 qaf9 qaz hb2 p1
  obtain ⟨rac0, rac1, rac2, rac3, rac4, rac5, rac6, rac7, rac8, rac9, raz⟩ := ra.c10
  go_wp2_with fail
  refine wp_world (X := fun W => Below w.heap.size w W ∧ Blk W w.heap.size [.int .i64 k, .int .u64 key, .bool prev.has, .int .u64 prev.bits, .bool cur.has, .int .u64 cur.bits, .int .i64 n, .int .i64 b, .slice (some ⟨pb, po, none⟩) pl pc, .slice sa sl sc] 43 ∧ Blk W w2.heap.size [.int .u64 key, .bool prev.has, .int .u64 prev.bits, .bool cur.has, .int .u64 cur.bits, .int .i64 n] 26 ∧ Blk W (w2.heap.size + 1) [.bool cur.has, .int .u64 cur.bits] 24) ⟨(by repeat' (first | with_reducible exact Below.refl _ _ | with_reducible assumption | with_reducible refine bel_drew ?_ | with_reducible refine bel_alloc ?_ _ | with_reducible refine bel_set ?_ ?_ _ | with_reducible refine bel_call ?_ (by assumption) | (dsimp only; omega) | (simp; done) | (simp; omega))), (by repeat' (first | with_reducible assumption | (show (_ : List Value) = _; rfl) | with_reducible exact Blk.new _ _ rfl | (with_reducible refine Blk.new _ _ ?_; simp; done) | with_reducible apply Blk.set_eq | with_reducible apply Blk.other | with_reducible apply Blk.alloc | (simp; done) | (simp; omega))), (by repeat' (first | with_reducible assumption | (show (_ : List Value) = _; rfl) | with_reducible exact Blk.new _ _ rfl | (with_reducible refine Blk.new _ _ ?_; simp; done) | with_reducible apply Blk.set_eq | with_reducible apply Blk.other | with_reducible apply Blk.alloc | (simp; done) | (simp; omega))), (by repeat' (first | with_reducible assumption | (show (_ : List Value) = _; rfl) | with_reducible exact Blk.new _ _ rfl | (with_reducible refine Blk.new _ _ ?_; simp; done) | with_reducible apply Blk.set_eq | with_reducible apply Blk.other | with_reducible apply Blk.alloc | (simp; done) | (simp; omega)))⟩ ?_
  rintro w3 ⟨p3, r3, q3, v3⟩
  have s1 : w.heap.size < w2.heap.size := raz
  have s2 : w.heap.size < w2.heap.size + 1 := by omega
  have s3 : w2.heap.size ≠ w2.heap.size + 1 := by omega
  clear ra rac0 rac1 rac2 rac3 rac4 rac5 rac6 rac7 rac8 rac9 raz p2 C1 C2
  generalize w2.heap.size + 1 = bn at *
  generalize w2.heap.size = bc at *
  clear w1 w2
  go_loopg [5] pl (fun gg s5 wr => ∃ (i : Nat) (P C : V) (N : Int), i ≤ pl ∧ gg = pl - i ∧ s5 = .int .i64 i ∧ AgJ w k [.int .i64 k, .int .u64 key, .bool prev.has, .int .u64 prev.bits, .bool cur.has, .int .u64 cur.bits, .int .i64 n, .int .i64 b, .slice (some ⟨pb, po, none⟩) pl pc, .slice sa sl sc] key cur b f bc bn pl i P C N wr)
  case atStart => exact ⟨0, prev, cur, n, Nat.zero_le _, rfl, rfl, p3, r3, q3, v3, .inl ⟨H3.out.1, rfl⟩, fun _ h => absurd h (by decide)⟩
  case round =>
    obtain ⟨i, P, C, N, hi, rfl, rfl, hJ⟩ := hrel
    clear p3 r3 q3 v3
    have p := hJ.bel
    have r := hJ.att
    have qc := hJ.cell
    have v := hJ.now
    have Jst := Lib.hid hJ.st
    have Jl := Lib.hid hJ.last
    clear hJ
    obtain ⟨rac0, rac1, rac2, rac3, rac4, rac5, rac6, rac7, rac8, rac9, raz⟩ := r.c10
    obtain ⟨qc0, qc1, qc2, qc3, qc4, qc5, qz⟩ := qc.c6
    obtain ⟨vc0, vc1, vz⟩ := v.c2
    by_cases hlt : i < pl
    · have x0 : wr.cell? ⟨pb, po + i * 2, none⟩ = some (.bool (f i).has) := (p.cell (p := ⟨pb, po + (i * 2 + 0), none⟩) H4.out.lt).trans (H4.out.has i hlt)
      have x1 : wr.cell? ⟨pb, po + i * 2 + 1, none⟩ = some (.int .u64 (f i).bits) := (p.cell (p := ⟨pb, po + (i * 2 + 1), none⟩) H4.out.lt).trans (H4.out.bits i hlt)
      have xz : pb < wr.heap.size := Nat.lt_of_lt_of_le H4.out.lt p.size
      have hz2 : (i : Int) < (pl : Int) := by omega
      obtain ⟨g1, g2, g3, g4, g5⟩ := H3.out
      have hpo := H4.out.ok i hlt
      have c3 := ap_state k key cur b (f i) H1.out g2 hpo P C N Jst.out H2.out
      obtain ⟨m, hm⟩ : ∃ m, merge k cur (f i) = m := ⟨_, rfl⟩
      have c6 := fun w => merge_any k cur (f i) w H2.out hpo
      rw [hm] at c3 c6
      have HM := Lib.hid hm
      have mok : m.ok := hm ▸ Fl.merge_ok H2.out hpo
      have fm : fit k m = m := by rw [← hm]; exact Fl.fit_merge k cur (f i)
      have c4 := fun w => resolve_any ⟨key, cur, m, b⟩ (b - 1) w
      rw [show resolveC ⟨key, cur, m, b⟩ (b - 1) = cur by unfold resolveC; rw [if_pos (by dsimp only; omega)]] at c4
      have c5 := fun w => resolve_any ⟨key, cur, m, b⟩ b w
      rw [show resolveC ⟨key, cur, m, b⟩ b = m by unfold resolveC; rw [if_neg (by dsimp only; omega)]] at c5
      have c7 := fun w => cfit_any k ⟨key, cur, m, b⟩ w ⟨H2.out, mok⟩
      have e7 : fitC k ⟨key, cur, m, b⟩ = decide (b ≤ 1099511627776) := by
        unfold fitC
        dsimp only
        rw [H1.out, H7.out, fm]
        simp
        omega
      rw [e7] at c7
      have c8 := fun w => revert_any ⟨key, cur, m, b⟩ b w ⟨by dsimp only; omega, by dsimp only; omega⟩
      rw [show revertC ⟨key, cur, m, b⟩ b = ⟨key, cur, cur, b - 1⟩ by unfold revertC; rw [if_pos ⟨rfl, by omega⟩]] at c8
      have c9 := fun w => resolve_any ⟨key, cur, cur, b - 1⟩ (b - 1) w
      rw [show resolveC ⟨key, cur, cur, b - 1⟩ (b - 1) = cur by unfold resolveC; split <;> rfl] at c9
      have c10 := fun w => resolve_any ⟨key, cur, cur, b - 1⟩ b w
      rw [show resolveC ⟨key, cur, cur, b - 1⟩ b = cur by unfold resolveC; split <;> rfl] at c10
      have hi1 : IntKind.i64.wrap ((i : Int) + 1) = (i : Int) + 1 := Go.IntWalk.i64_in _ (by omega)
      generalize hfi : f i = fi at *
      have HF := Lib.hid hfi
      clear hfi
      have HL : Hid (i + 1 = pl → m = merge k cur (f (pl - 1))) := Lib.hid (fun h => by rw [show pl - 1 = i by omega, HF.out, HM.out])
      dsimp only at c4 c5 c7 c8 c9 c10
      have C3 := Lib.hid c3
      have C4 := Lib.hid c4
      have C5 := Lib.hid c5
      have C6 := Lib.hid c6
      have C8 := Lib.hid c8
      have C9 := Lib.hid c9
      have C10 := Lib.hid c10
      have hp1 : (i < pl - 1) ↔ (i < q) := by omega
      clear c3 c4 c5 c6 c8 c9 c10 e7 hm mok fm g1 g2 g3 g4 g5 hpo hp1
      by_cases hb40 : b ≤ 1099511627776
      all_goals
        first | rw [decide_eq_true hb40] at c7 | rw [decide_eq_false hb40] at c7
        have C7 := Lib.hid c7
        clear c7
        go_wp2_with fail
        refine wp_region_ghost (NewC _ 14 15 [.int .u64 key, .bool cur.has, .int .u64 cur.bits, .bool m.has, .int .u64 m.bits, .int .i64 b] [.int .u64 0, .bool false, .int .u64 0, .bool false, .int .u64 0, .int .i64 0] 26) (by kernel_rfl) (by kernel_rfl) NewC.loc (.begin (Below.refl _ _).drew rfl) ?_
        refine lexg_val (fun _ => by rfl) ?_; apply Exists.intro; refine ⟨?_, ?_⟩; ((intro g L w' hU hT; have hT' := hT.upd (i := 0) (by decide) (by decide); obtain ⟨hc, hf⟩ := bcell hT.bel; clear hT hU; go_simp; exact rfl)); simp only [Act.put, List.setIfInBounds_toArray, List.set_cons_zero, List.set_cons_succ]
        refine lexg_val (fun _ => by rfl) ?_; apply Exists.intro; refine ⟨?_, ?_⟩; ((intro g L w' hU hT; have hT' := hT.upd (i := 1) (by decide) (by decide); obtain ⟨hc, hf⟩ := bcell hT.bel; clear hT hU; go_simp; exact rfl)); simp only [Act.put, List.setIfInBounds_toArray, List.set_cons_zero, List.set_cons_succ]
        refine lexg_val (fun _ => by rfl) ?_; apply Exists.intro; refine ⟨?_, ?_⟩; ((intro g L w' hU hT; have hT' := hT.upd (i := 2) (by decide) (by decide); obtain ⟨hc, hf⟩ := bcell hT.bel; clear hT hU; go_simp; exact rfl)); simp only [Act.put, List.setIfInBounds_toArray, List.set_cons_zero, List.set_cons_succ]
        refine lexg_val (fun _ => by rfl) ?_; apply Exists.intro; refine ⟨?_, ?_⟩; ((intro g L w' hU hT; have hT' := hT.upd (i := 3) (by decide) (by decide); obtain ⟨hc, hf⟩ := bcell hT.bel; clear hT hU; go_simp; exact rfl)); simp only [Act.put, List.setIfInBounds_toArray, List.set_cons_zero, List.set_cons_succ]
        refine lexg_val (fun _ => by rfl) ?_; apply Exists.intro; refine ⟨?_, ?_⟩; ((intro g L w' hU hT; have hT' := hT.upd (i := 4) (by decide) (by decide); obtain ⟨hc, hf⟩ := bcell hT.bel; clear hT hU; go_simp; exact rfl)); simp only [Act.put, List.setIfInBounds_toArray, List.set_cons_zero, List.set_cons_succ]
        refine lexg_val (fun _ => by rfl) ?_; apply Exists.intro; refine ⟨?_, ?_⟩; ((intro g L w' hU hT; have hT' := hT.upd (i := 5) (by decide) (by decide); obtain ⟨hc, hf⟩ := bcell hT.bel; clear hT hU; go_simp; exact rfl)); simp only [Act.put, List.setIfInBounds_toArray, List.set_cons_zero, List.set_cons_succ]
        refine lexg_val (fun _ => by rfl) ?_; apply Exists.intro; refine ⟨?_, ?_⟩; ((intro g L w' hU hT; have hT' := hT.upd (i := 6) (by decide) (by decide); obtain ⟨hc, hf⟩ := bcell hT.bel; clear hT hU; go_simp; exact rfl)); simp only [Act.put, List.setIfInBounds_toArray, List.set_cons_zero, List.set_cons_succ]
        refine lexg_val (fun _ => by rfl) ?_; apply Exists.intro; refine ⟨?_, ?_⟩; ((intro g L w' hU hT; have hT' := hT.upd (i := 7) (by decide) (by decide); obtain ⟨hc, hf⟩ := bcell hT.bel; clear hT hU; go_simp; exact rfl)); simp only [Act.put, List.setIfInBounds_toArray, List.set_cons_zero, List.set_cons_succ]
        refine lexg_val (fun _ => by rfl) ?_; apply Exists.intro; refine ⟨?_, ?_⟩; ((intro g L w' hU hT; have hT' := hT.upd (i := 8) (by decide) (by decide); obtain ⟨hc, hf⟩ := bcell hT.bel; clear hT hU; go_simp; exact rfl)); simp only [Act.put, List.setIfInBounds_toArray, List.set_cons_zero, List.set_cons_succ]
        refine lexg_val (fun _ => by rfl) ?_; apply Exists.intro; refine ⟨?_, ?_⟩; ((intro g L w' hU hT; have hT' := hT.upd (i := 9) (by decide) (by decide); obtain ⟨hc, hf⟩ := bcell hT.bel; clear hT hU; go_simp; exact rfl)); simp only [Act.put, List.setIfInBounds_toArray, List.set_cons_zero, List.set_cons_succ]
        refine lexg_val (fun _ => by rfl) ?_; apply Exists.intro; refine ⟨?_, ?_⟩; ((intro g L w' hU hT; have hT' := hT.upd (i := 10) (by decide) (by decide); obtain ⟨hc, hf⟩ := bcell hT.bel; clear hT hU; go_simp; first | exact rfl | exact (C3.out _).mono fun e w'' ⟨he, hb⟩ => ⟨he, hT'.next hb⟩)); simp only [Act.put, List.setIfInBounds_toArray, List.set_cons_zero, List.set_cons_succ]
        refine lexg_val (fun _ => by rfl) ?_; apply Exists.intro; refine ⟨?_, ?_⟩; ((intro g L w' hU hT; have hT' := hT.upd (i := 11) (by decide) (by decide); obtain ⟨hc, hf⟩ := bcell hT.bel; clear hT hU; go_simp; exact rfl)); simp only [Act.put, List.setIfInBounds_toArray, List.set_cons_zero, List.set_cons_succ]
        refine lexg_val (fun _ => by rfl) ?_; apply Exists.intro; refine ⟨?_, ?_⟩; ((intro g L w' hU hT; have hT' := hT.upd (i := 12) (by decide) (by decide); obtain ⟨hc, hf⟩ := bcell hT.bel; clear hT hU; go_simp; exact rfl)); simp only [Act.put, List.setIfInBounds_toArray, List.set_cons_zero, List.set_cons_succ]
        refine lexg_val (fun _ => by rfl) ?_; apply Exists.intro; refine ⟨?_, ?_⟩; ((intro g L w' hU hT; have hT' := hT.upd (i := 13) (by decide) (by decide); obtain ⟨hc, hf⟩ := bcell hT.bel; clear hT hU; go_simp; exact rfl)); simp only [Act.put, List.setIfInBounds_toArray, List.set_cons_zero, List.set_cons_succ]
        refine lexg_alloc (fun b => .pointer (some ⟨b, 0, none⟩)) (fun _ => by rfl) ?_ ?_; ((intro g L w' hU hT; refine ⟨w'.heap.size, _, ?_, hT.alloc (hU.closed.no (j := 15) rfl (by kernel_rfl) hU.not) (by decide)⟩; clear hT hU; go_simp)); simp only [Nat.reduceAdd]; simp only [Act.put, List.setIfInBounds_toArray, List.set_cons_zero, List.set_cons_succ]
        refine lexg_op (fun _ => by rfl) ?_; refine ⟨fun _ => undef, ?_, known_const _ _, ?_⟩; ((intro g L w' hU hT; have hK : L 14 = true := hU.yes (m := 14) rfl (by kernel_rfl); have hL := hU.not; have hT' := hT.store hK hL rfl; have hB := (hT.blk hK).2; rw [hL, if_neg (by decide)] at hB; have zc0 := hB.cell 0; have zf0 := hB.free 0; have zc1 := hB.cell 1; have zf1 := hB.free 1; have zc2 := hB.cell 2; have zf2 := hB.free 2; have zc3 := hB.cell 3; have zf3 := hB.free 3; have zc4 := hB.cell 4; have zf4 := hB.free 4; have zc5 := hB.cell 5; have zf5 := hB.free 5; simp only [List.getElem?_cons_zero, List.getElem?_cons_succ] at zc0 zc1 zc2 zc3 zc4 zc5; clear hT hU hK; go_simp; first | exact hT' | exact ⟨hT', rfl⟩)); simp only [Act.put]
        refine lexg_val (fun _ => by rfl) ?_; apply Exists.intro; refine ⟨?_, ?_⟩; ((intro g L w' hU hT; have hT' := hT.upd (i := 16) (by decide) (by decide); obtain ⟨hc, hf⟩ := bcell hT.bel; clear hT hU; go_simp; exact rfl)); simp only [Act.put, List.setIfInBounds_toArray, List.set_cons_zero, List.set_cons_succ]
        refine lexg_nil ?_; intro g w3 hT; have bel_w3 := hT.bel; have n_w3 := (hT.blk rfl).1; have q_w3 := (hT.blk rfl).2; clear hT; rw [if_pos rfl] at q_w3; dsimp only; generalize g 14 = b3 at *; clear g
        have p3 : Below w.heap.size w w3 := (by repeat' (first | with_reducible exact Below.refl _ _ | with_reducible assumption | with_reducible refine bel_drew ?_ | with_reducible refine bel_alloc ?_ _ | with_reducible refine bel_set ?_ ?_ _ | with_reducible refine bel_call ?_ (by assumption) | (dsimp only; omega) | (simp; done) | (simp; omega)))
        have r3 := r.below bel_w3
        have q3 := qc.below bel_w3
        have v3 := v.below bel_w3
        have y0 : w3.cell? ⟨pb, po + i * 2, none⟩ = some (.bool fi.has) := (bel_w3.cell (p := ⟨pb, po + i * 2, none⟩) xz).trans x0
        have y1 : w3.cell? ⟨pb, po + i * 2 + 1, none⟩ = some (.int .u64 fi.bits) := (bel_w3.cell (p := ⟨pb, po + i * 2 + 1, none⟩) xz).trans x1
        have yz : pb < w3.heap.size := Nat.lt_of_lt_of_le xz bel_w3.size
        have hN2 : b3 ≠ bc := by have := n_w3; omega
        clear r qc v rac0 rac1 rac2 rac3 rac4 rac5 rac6 rac7 rac8 rac9 raz qc0 qc1 qc2 qc3 qc4 qc5 qz vc0 vc1 vz x0 x1 xz p bel_w3 n_w3 C3
        obtain ⟨rac0, rac1, rac2, rac3, rac4, rac5, rac6, rac7, rac8, rac9, raz⟩ := r3.c10
        obtain ⟨vc0, vc1, vz⟩ := v3.c2
        obtain ⟨dc0, dc1, dc2, dc3, dc4, dc5, dz⟩ := q_w3.c6
        go_wp2_with fail
        refine wp_region_below (by kernel_rfl) (by kernel_rfl) ?_
        iterate 39 (first | (refine lex_skip (by rfl) (fun _ _ _ _ h => h) ?_; simp only [Act.put, List.setIfInBounds_toArray, List.set_cons_zero, List.set_cons_succ]) | (refine lex_op (by rfl) ?_; apply Exists.intro; refine ⟨?_, ?_⟩; ((intro _ _ _ _ hT; obtain ⟨hc, hf⟩ := bcell hT; go_simp; first | exact rfl | (with_reducible exact call_below hT (C4.out _)) | (with_reducible exact call_below hT (C5.out _)) | (with_reducible exact call_below hT (C6.out _)) | (with_reducible exact call_below hT (C7.out _)))); simp only [Act.put, List.setIfInBounds_toArray, List.set_cons_zero, List.set_cons_succ]))
        refine lex_nil ?_
        intro w4 hb4
        have p4 : Below w.heap.size w w4 := (by repeat' (first | with_reducible exact Below.refl _ _ | with_reducible assumption | with_reducible refine bel_drew ?_ | with_reducible refine bel_alloc ?_ _ | with_reducible refine bel_set ?_ ?_ _ | with_reducible refine bel_call ?_ (by assumption) | (dsimp only; omega) | (simp; done) | (simp; omega)))
        have r4 := r3.below hb4
        have q4 := q3.below hb4
        have v4 := v3.below hb4
        have d4 := q_w3.below hb4
        clear r3 q3 v3 q_w3 rac0 rac1 rac2 rac3 rac4 rac5 rac6 rac7 rac8 rac9 raz vc0 vc1 vz dc0 dc1 dc2 dc3 dc4 dc5 dz y0 y1 yz p3 hb4 C4 C5 C6 C7
        obtain ⟨rac0, rac1, rac2, rac3, rac4, rac5, rac6, rac7, rac8, rac9, raz⟩ := r4.c10
        obtain ⟨vc0, vc1, vz⟩ := v4.c2
        obtain ⟨dc0, dc1, dc2, dc3, dc4, dc5, dz⟩ := d4.c6
        obtain ⟨qc0, qc1, qc2, qc3, qc4, qc5, qz⟩ := q4.c6
        obtain ⟨qf0, qf1, qf2, qf3, qf4, qf5⟩ := q4.f6
        have s4 : w.heap.size ≠ bc := by omega
        have s5 : bn ≠ bc := fun h => s3 h.symm
        by_cases hs : i < sl
        · obtain rfl := H5.out (by omega)
          have hs2 : (i : Int) < (sl : Int) := by omega
          have hk := H6.out (by omega)
          have xb : w4.cell? ⟨bb, bo + i, none⟩ = some (.bool (g i)) := (p4.cell (p := ⟨bb, bo + i, none⟩) hk.1).trans (hk.2 i hs)
          have xz : bb < w4.heap.size := Nat.lt_of_lt_of_le hk.1 p4.size
          have s6 : bb ≠ bc := by have := hk.1; omega
          clear hk
          generalize g i = gi at xb
          cases gi
          · go_wp2_with fail
            go_roundg (pl - (i + 1))
            case measure => omega
            case rel => exact ⟨i + 1, cur, m, b, hlt, rfl, (by first | rfl | simp), (by repeat' (first | with_reducible exact Below.refl _ _ | with_reducible assumption | with_reducible refine bel_drew ?_ | with_reducible refine bel_alloc ?_ _ | with_reducible refine bel_set ?_ ?_ _ | with_reducible refine bel_call ?_ (by assumption) | (dsimp only; omega) | (simp; done) | (simp; omega))), (by repeat' (first | with_reducible assumption | (show (_ : List Value) = _; rfl) | with_reducible exact Blk.new _ _ rfl | (with_reducible refine Blk.new _ _ ?_; simp; done) | with_reducible apply Blk.set_eq | with_reducible apply Blk.other | with_reducible apply Blk.alloc | (simp; done) | (simp; omega))), (by repeat' (first | with_reducible assumption | (show (_ : List Value) = _; rfl) | with_reducible exact Blk.new _ _ rfl | (with_reducible refine Blk.new _ _ ?_; simp; done) | with_reducible apply Blk.set_eq | with_reducible apply Blk.other | with_reducible apply Blk.alloc | (simp; done) | (simp; omega))), (by repeat' (first | with_reducible assumption | (show (_ : List Value) = _; rfl) | with_reducible exact Blk.new _ _ rfl | (with_reducible refine Blk.new _ _ ?_; simp; done) | with_reducible apply Blk.set_eq | with_reducible apply Blk.other | with_reducible apply Blk.alloc | (simp; done) | (simp; omega))), .inr ⟨rfl, rfl⟩, fun h _ => ⟨rfl, HL.out h, rfl⟩⟩
          · by_cases hq2 : i < q
            · have hq3 : (i : Int) < (q : Int) := by omega
              go_wp2_with fail
              refine (C8.out _).mono ?_
              rintro e w5 ⟨rfl, hb5⟩
              have p5 : Below w.heap.size w w5 := (by repeat' (first | with_reducible exact Below.refl _ _ | with_reducible assumption | with_reducible refine bel_drew ?_ | with_reducible refine bel_alloc ?_ _ | with_reducible refine bel_set ?_ ?_ _ | with_reducible refine bel_call ?_ (by assumption) | (dsimp only; omega) | (simp; done) | (simp; omega)))
              have r5 : Blk w5 w.heap.size [.int .i64 k, .int .u64 key, .bool prev.has, .int .u64 prev.bits, .bool cur.has, .int .u64 cur.bits, .int .i64 n, .int .i64 b, .slice (some ⟨pb, po, none⟩) pl pc, .slice (some ⟨bb, bo, none⟩) sl sc] 43 := Blk.below (by repeat' (first | with_reducible assumption | (show (_ : List Value) = _; rfl) | with_reducible exact Blk.new _ _ rfl | (with_reducible refine Blk.new _ _ ?_; simp; done) | with_reducible apply Blk.set_eq | with_reducible apply Blk.other | with_reducible apply Blk.alloc | (simp; done) | (simp; omega))) hb5
              have q5 : Blk w5 bc [.int .u64 key, .bool cur.has, .int .u64 cur.bits, .bool m.has, .int .u64 m.bits, .int .i64 b] 26 := Blk.below (by repeat' (first | with_reducible assumption | (show (_ : List Value) = _; rfl) | with_reducible exact Blk.new _ _ rfl | (with_reducible refine Blk.new _ _ ?_; simp; done) | with_reducible apply Blk.set_eq | with_reducible apply Blk.other | with_reducible apply Blk.alloc | (simp; done) | (simp; omega))) hb5
              have v5 : Blk w5 bn [.bool cur.has, .int .u64 cur.bits] 24 := Blk.below (by repeat' (first | with_reducible assumption | (show (_ : List Value) = _; rfl) | with_reducible exact Blk.new _ _ rfl | (with_reducible refine Blk.new _ _ ?_; simp; done) | with_reducible apply Blk.set_eq | with_reducible apply Blk.other | with_reducible apply Blk.alloc | (simp; done) | (simp; omega))) hb5
              clear r4 q4 v4 d4 rac0 rac1 rac2 rac3 rac4 rac5 rac6 rac7 rac8 rac9 raz vc0 vc1 vz dc0 dc1 dc2 dc3 dc4 dc5 dz qc0 qc1 qc2 qc3 qc4 qc5 qz qf0 qf1 qf2 qf3 qf4 qf5 xb xz p4 hb5 C8
              obtain ⟨qc0, qc1, qc2, qc3, qc4, qc5, qz⟩ := q5.c6
              obtain ⟨qf0, qf1, qf2, qf3, qf4, qf5⟩ := q5.f6
              go_wp2_with fail
              refine wp_world (X := fun W => Below w.heap.size w W ∧ Blk W w.heap.size [.int .i64 k, .int .u64 key, .bool prev.has, .int .u64 prev.bits, .bool cur.has, .int .u64 cur.bits, .int .i64 n, .int .i64 b, .slice (some ⟨pb, po, none⟩) pl pc, .slice (some ⟨bb, bo, none⟩) sl sc] 43 ∧ Blk W bc [.int .u64 key, .bool cur.has, .int .u64 cur.bits, .bool cur.has, .int .u64 cur.bits, .int .i64 (b - 1)] 26 ∧ Blk W bn [.bool cur.has, .int .u64 cur.bits] 24) ⟨(by repeat' (first | with_reducible exact Below.refl _ _ | with_reducible assumption | with_reducible refine bel_drew ?_ | with_reducible refine bel_alloc ?_ _ | with_reducible refine bel_set ?_ ?_ _ | with_reducible refine bel_call ?_ (by assumption) | (dsimp only; omega) | (simp; done) | (simp; omega))), (by repeat' (first | with_reducible assumption | (show (_ : List Value) = _; rfl) | with_reducible exact Blk.new _ _ rfl | (with_reducible refine Blk.new _ _ ?_; simp; done) | with_reducible apply Blk.set_eq | with_reducible apply Blk.other | with_reducible apply Blk.alloc | (simp; done) | (simp; omega))), (by repeat' (first | with_reducible assumption | (show (_ : List Value) = _; rfl) | with_reducible exact Blk.new _ _ rfl | (with_reducible refine Blk.new _ _ ?_; simp; done) | with_reducible apply Blk.set_eq | with_reducible apply Blk.other | with_reducible apply Blk.alloc | (simp; done) | (simp; omega))), (by repeat' (first | with_reducible assumption | (show (_ : List Value) = _; rfl) | with_reducible exact Blk.new _ _ rfl | (with_reducible refine Blk.new _ _ ?_; simp; done) | with_reducible apply Blk.set_eq | with_reducible apply Blk.other | with_reducible apply Blk.alloc | (simp; done) | (simp; omega)))⟩ ?_
              clear r5 q5 v5 qc0 qc1 qc2 qc3 qc4 qc5 qz qf0 qf1 qf2 qf3 qf4 qf5 p5
              rintro w6 ⟨p6, r6, q6, v6⟩
              obtain ⟨rac0, rac1, rac2, rac3, rac4, rac5, rac6, rac7, rac8, rac9, raz⟩ := r6.c10
              obtain ⟨vc0, vc1, vz⟩ := v6.c2
              obtain ⟨qc0, qc1, qc2, qc3, qc4, qc5, qz⟩ := q6.c6
              refine wp_region_below (by kernel_rfl) (by kernel_rfl) ?_
              iterate 23 (first | (refine lex_skip (by rfl) (fun _ _ _ _ h => h) ?_; simp only [Act.put, List.setIfInBounds_toArray, List.set_cons_zero, List.set_cons_succ]) | (refine lex_op (by rfl) ?_; apply Exists.intro; refine ⟨?_, ?_⟩; ((intro _ _ _ _ hT; obtain ⟨hc, hf⟩ := bcell hT; go_simp; first | exact rfl | (with_reducible exact call_below hT (C9.out _)) | (with_reducible exact call_below hT (C10.out _)))); simp only [Act.put, List.setIfInBounds_toArray, List.set_cons_zero, List.set_cons_succ]))
              refine lex_nil ?_
              intro w7 hb7
              have p7 : Below w.heap.size w w7 := (by repeat' (first | with_reducible exact Below.refl _ _ | with_reducible assumption | with_reducible refine bel_drew ?_ | with_reducible refine bel_alloc ?_ _ | with_reducible refine bel_set ?_ ?_ _ | with_reducible refine bel_call ?_ (by assumption) | (dsimp only; omega) | (simp; done) | (simp; omega)))
              have r7 := r6.below hb7
              have q7 := q6.below hb7
              have v7 := v6.below hb7
              clear r6 q6 v6 rac0 rac1 rac2 rac3 rac4 rac5 rac6 rac7 rac8 rac9 raz vc0 vc1 vz qc0 qc1 qc2 qc3 qc4 qc5 qz p6 hb7
              go_wp2_with fail
              go_roundg (pl - (i + 1))
              case measure => omega
              case rel => exact ⟨i + 1, cur, cur, b - 1, hlt, rfl, (by first | rfl | simp), p7, r7, q7, v7, .inl ⟨(by have := H3.out; omega), rfl⟩, fun h _ => absurd h (by have := H3.out; omega)⟩
            · have hq3 : ¬ ((i : Int) < (q : Int)) := by omega
              go_wp2_with fail
              go_roundg (pl - (i + 1))
              case measure => omega
              case rel => exact ⟨i + 1, cur, m, b, hlt, rfl, (by first | rfl | simp), (by repeat' (first | with_reducible exact Below.refl _ _ | with_reducible assumption | with_reducible refine bel_drew ?_ | with_reducible refine bel_alloc ?_ _ | with_reducible refine bel_set ?_ ?_ _ | with_reducible refine bel_call ?_ (by assumption) | (dsimp only; omega) | (simp; done) | (simp; omega))), (by repeat' (first | with_reducible assumption | (show (_ : List Value) = _; rfl) | with_reducible exact Blk.new _ _ rfl | (with_reducible refine Blk.new _ _ ?_; simp; done) | with_reducible apply Blk.set_eq | with_reducible apply Blk.other | with_reducible apply Blk.alloc | (simp; done) | (simp; omega))), (by repeat' (first | with_reducible assumption | (show (_ : List Value) = _; rfl) | with_reducible exact Blk.new _ _ rfl | (with_reducible refine Blk.new _ _ ?_; simp; done) | with_reducible apply Blk.set_eq | with_reducible apply Blk.other | with_reducible apply Blk.alloc | (simp; done) | (simp; omega))), (by repeat' (first | with_reducible assumption | (show (_ : List Value) = _; rfl) | with_reducible exact Blk.new _ _ rfl | (with_reducible refine Blk.new _ _ ?_; simp; done) | with_reducible apply Blk.set_eq | with_reducible apply Blk.other | with_reducible apply Blk.alloc | (simp; done) | (simp; omega))), .inr ⟨rfl, rfl⟩, fun h _ => ⟨rfl, HL.out h, rfl⟩⟩
        · have hs2 : ¬ ((i : Int) < (sl : Int)) := by omega
          go_wp2_with fail
          go_roundg (pl - (i + 1))
          case measure => omega
          case rel => exact ⟨i + 1, cur, m, b, hlt, rfl, (by first | rfl | simp), (by repeat' (first | with_reducible exact Below.refl _ _ | with_reducible assumption | with_reducible refine bel_drew ?_ | with_reducible refine bel_alloc ?_ _ | with_reducible refine bel_set ?_ ?_ _ | with_reducible refine bel_call ?_ (by assumption) | (dsimp only; omega) | (simp; done) | (simp; omega))), (by repeat' (first | with_reducible assumption | (show (_ : List Value) = _; rfl) | with_reducible exact Blk.new _ _ rfl | (with_reducible refine Blk.new _ _ ?_; simp; done) | with_reducible apply Blk.set_eq | with_reducible apply Blk.other | with_reducible apply Blk.alloc | (simp; done) | (simp; omega))), (by repeat' (first | with_reducible assumption | (show (_ : List Value) = _; rfl) | with_reducible exact Blk.new _ _ rfl | (with_reducible refine Blk.new _ _ ?_; simp; done) | with_reducible apply Blk.set_eq | with_reducible apply Blk.other | with_reducible apply Blk.alloc | (simp; done) | (simp; omega))), (by repeat' (first | with_reducible assumption | (show (_ : List Value) = _; rfl) | with_reducible exact Blk.new _ _ rfl | (with_reducible refine Blk.new _ _ ?_; simp; done) | with_reducible apply Blk.set_eq | with_reducible apply Blk.other | with_reducible apply Blk.alloc | (simp; done) | (simp; omega))), .inr ⟨rfl, rfl⟩, fun h _ => ⟨rfl, HL.out h, rfl⟩⟩
    · have hz2 : ¬ ((i : Int) < (pl : Int)) := by omega
      have e1 : pl - 1 = q := by have := H3.out; omega
      obtain ⟨eP, eC, eN⟩ := Jl.out (by omega) (by have := H3.out; omega)
      rw [e1] at eC
      have hqp := H4.out.ok q h31
      have c3 := ap_state k key cur b (f q) H1.out H3.out.2.1 hqp prev cur n (.inl ⟨h4, rfl⟩) H2.out
      have x0 : wr.cell? ⟨pb, po + q * 2, none⟩ = some (.bool (f q).has) := (p.cell (p := ⟨pb, po + (q * 2 + 0), none⟩) H4.out.lt).trans (H4.out.has q h31)
      have x1 : wr.cell? ⟨pb, po + q * 2 + 1, none⟩ = some (.int .u64 (f q).bits) := (p.cell (p := ⟨pb, po + (q * 2 + 1), none⟩) H4.out.lt).trans (H4.out.bits q h31)
      have xz : pb < wr.heap.size := Nat.lt_of_lt_of_le H4.out.lt p.size
      rw [eP, eC, eN] at qc
      clear Jst Jl eP eC eN e1 qc0 qc1 qc2 qc3 qc4 qc5 qz hqp
      generalize merge k cur (f q) = m at *
      generalize f q = fq at *
      have C3 := Lib.hid c3
      clear c3
      go_wp2_with fail
      refine wp_region_ghost (NewC _ 18 19 [.int .u64 key, .bool cur.has, .int .u64 cur.bits, .bool m.has, .int .u64 m.bits, .int .i64 b] [.int .u64 0, .bool false, .int .u64 0, .bool false, .int .u64 0, .int .i64 0] 26) (by kernel_rfl) (by kernel_rfl) NewC.loc (.begin (Below.refl _ _).drew rfl) ?_
      refine lexg_val (fun _ => by rfl) ?_; apply Exists.intro; refine ⟨?_, ?_⟩; ((intro g L w' hU hT; have hT' := hT.upd (i := 0) (by decide) (by decide); obtain ⟨hc, hf⟩ := bcell hT.bel; clear hT hU; go_simp; exact rfl)); simp only [Act.put, List.setIfInBounds_toArray, List.set_cons_zero, List.set_cons_succ]
      refine lexg_val (fun _ => by rfl) ?_; apply Exists.intro; refine ⟨?_, ?_⟩; ((intro g L w' hU hT; have hT' := hT.upd (i := 1) (by decide) (by decide); obtain ⟨hc, hf⟩ := bcell hT.bel; clear hT hU; go_simp; exact rfl)); simp only [Act.put, List.setIfInBounds_toArray, List.set_cons_zero, List.set_cons_succ]
      refine lexg_val (fun _ => by rfl) ?_; apply Exists.intro; refine ⟨?_, ?_⟩; ((intro g L w' hU hT; have hT' := hT.upd (i := 2) (by decide) (by decide); obtain ⟨hc, hf⟩ := bcell hT.bel; clear hT hU; go_simp; exact rfl)); simp only [Act.put, List.setIfInBounds_toArray, List.set_cons_zero, List.set_cons_succ]
      refine lexg_val (fun _ => by rfl) ?_; apply Exists.intro; refine ⟨?_, ?_⟩; ((intro g L w' hU hT; have hT' := hT.upd (i := 3) (by decide) (by decide); obtain ⟨hc, hf⟩ := bcell hT.bel; clear hT hU; go_simp; exact rfl)); simp only [Act.put, List.setIfInBounds_toArray, List.set_cons_zero, List.set_cons_succ]
      refine lexg_val (fun _ => by rfl) ?_; apply Exists.intro; refine ⟨?_, ?_⟩; ((intro g L w' hU hT; have hT' := hT.upd (i := 4) (by decide) (by decide); obtain ⟨hc, hf⟩ := bcell hT.bel; clear hT hU; go_simp; exact rfl)); simp only [Act.put, List.setIfInBounds_toArray, List.set_cons_zero, List.set_cons_succ]
      refine lexg_val (fun _ => by rfl) ?_; apply Exists.intro; refine ⟨?_, ?_⟩; ((intro g L w' hU hT; have hT' := hT.upd (i := 5) (by decide) (by decide); obtain ⟨hc, hf⟩ := bcell hT.bel; clear hT hU; go_simp; exact rfl)); simp only [Act.put, List.setIfInBounds_toArray, List.set_cons_zero, List.set_cons_succ]
      refine lexg_val (fun _ => by rfl) ?_; apply Exists.intro; refine ⟨?_, ?_⟩; ((intro g L w' hU hT; have hT' := hT.upd (i := 6) (by decide) (by decide); obtain ⟨hc, hf⟩ := bcell hT.bel; clear hT hU; go_simp; exact rfl)); simp only [Act.put, List.setIfInBounds_toArray, List.set_cons_zero, List.set_cons_succ]
      refine lexg_val (fun _ => by rfl) ?_; apply Exists.intro; refine ⟨?_, ?_⟩; ((intro g L w' hU hT; have hT' := hT.upd (i := 7) (by decide) (by decide); obtain ⟨hc, hf⟩ := bcell hT.bel; clear hT hU; go_simp; exact rfl)); simp only [Act.put, List.setIfInBounds_toArray, List.set_cons_zero, List.set_cons_succ]
      refine lexg_val (fun _ => by rfl) ?_; apply Exists.intro; refine ⟨?_, ?_⟩; ((intro g L w' hU hT; have hT' := hT.upd (i := 8) (by decide) (by decide); obtain ⟨hc, hf⟩ := bcell hT.bel; clear hT hU; go_simp; exact rfl)); simp only [Act.put, List.setIfInBounds_toArray, List.set_cons_zero, List.set_cons_succ]
      refine lexg_val (fun _ => by rfl) ?_; apply Exists.intro; refine ⟨?_, ?_⟩; ((intro g L w' hU hT; have hT' := hT.upd (i := 9) (by decide) (by decide); obtain ⟨hc, hf⟩ := bcell hT.bel; clear hT hU; go_simp; exact rfl)); simp only [Act.put, List.setIfInBounds_toArray, List.set_cons_zero, List.set_cons_succ]
      refine lexg_val (fun _ => by rfl) ?_; apply Exists.intro; refine ⟨?_, ?_⟩; ((intro g L w' hU hT; have hT' := hT.upd (i := 10) (by decide) (by decide); obtain ⟨hc, hf⟩ := bcell hT.bel; clear hT hU; go_simp; exact rfl)); simp only [Act.put, List.setIfInBounds_toArray, List.set_cons_zero, List.set_cons_succ]
      refine lexg_val (fun _ => by rfl) ?_; apply Exists.intro; refine ⟨?_, ?_⟩; ((intro g L w' hU hT; have hT' := hT.upd (i := 11) (by decide) (by decide); obtain ⟨hc, hf⟩ := bcell hT.bel; clear hT hU; go_simp; exact rfl)); simp only [Act.put, List.setIfInBounds_toArray, List.set_cons_zero, List.set_cons_succ]
      refine lexg_val (fun _ => by rfl) ?_; apply Exists.intro; refine ⟨?_, ?_⟩; ((intro g L w' hU hT; have hT' := hT.upd (i := 12) (by decide) (by decide); obtain ⟨hc, hf⟩ := bcell hT.bel; clear hT hU; go_simp; exact rfl)); simp only [Act.put, List.setIfInBounds_toArray, List.set_cons_zero, List.set_cons_succ]
      refine lexg_val (fun _ => by rfl) ?_; apply Exists.intro; refine ⟨?_, ?_⟩; ((intro g L w' hU hT; have hT' := hT.upd (i := 13) (by decide) (by decide); obtain ⟨hc, hf⟩ := bcell hT.bel; clear hT hU; go_simp; exact rfl)); simp only [Act.put, List.setIfInBounds_toArray, List.set_cons_zero, List.set_cons_succ]
      refine lexg_val (fun _ => by rfl) ?_; apply Exists.intro; refine ⟨?_, ?_⟩; ((intro g L w' hU hT; have hT' := hT.upd (i := 14) (by decide) (by decide); obtain ⟨hc, hf⟩ := bcell hT.bel; clear hT hU; go_simp; first | exact rfl | exact (C3.out _).mono fun e w'' ⟨he, hb⟩ => ⟨he, hT'.next hb⟩)); simp only [Act.put, List.setIfInBounds_toArray, List.set_cons_zero, List.set_cons_succ]
      refine lexg_val (fun _ => by rfl) ?_; apply Exists.intro; refine ⟨?_, ?_⟩; ((intro g L w' hU hT; have hT' := hT.upd (i := 15) (by decide) (by decide); obtain ⟨hc, hf⟩ := bcell hT.bel; clear hT hU; go_simp; exact rfl)); simp only [Act.put, List.setIfInBounds_toArray, List.set_cons_zero, List.set_cons_succ]
      refine lexg_val (fun _ => by rfl) ?_; apply Exists.intro; refine ⟨?_, ?_⟩; ((intro g L w' hU hT; have hT' := hT.upd (i := 16) (by decide) (by decide); obtain ⟨hc, hf⟩ := bcell hT.bel; clear hT hU; go_simp; exact rfl)); simp only [Act.put, List.setIfInBounds_toArray, List.set_cons_zero, List.set_cons_succ]
      refine lexg_val (fun _ => by rfl) ?_; apply Exists.intro; refine ⟨?_, ?_⟩; ((intro g L w' hU hT; have hT' := hT.upd (i := 17) (by decide) (by decide); obtain ⟨hc, hf⟩ := bcell hT.bel; clear hT hU; go_simp; exact rfl)); simp only [Act.put, List.setIfInBounds_toArray, List.set_cons_zero, List.set_cons_succ]
      refine lexg_alloc (fun b => .pointer (some ⟨b, 0, none⟩)) (fun _ => by rfl) ?_ ?_; ((intro g L w' hU hT; refine ⟨w'.heap.size, _, ?_, hT.alloc (hU.closed.no (j := 19) rfl (by kernel_rfl) hU.not) (by decide)⟩; clear hT hU; go_simp)); simp only [Nat.reduceAdd]; simp only [Act.put, List.setIfInBounds_toArray, List.set_cons_zero, List.set_cons_succ]
      refine lexg_op (fun _ => by rfl) ?_; refine ⟨fun _ => undef, ?_, known_const _ _, ?_⟩; ((intro g L w' hU hT; have hK : L 18 = true := hU.yes (m := 18) rfl (by kernel_rfl); have hL := hU.not; have hT' := hT.store hK hL rfl; have hB := (hT.blk hK).2; rw [hL, if_neg (by decide)] at hB; have zc0 := hB.cell 0; have zf0 := hB.free 0; have zc1 := hB.cell 1; have zf1 := hB.free 1; have zc2 := hB.cell 2; have zf2 := hB.free 2; have zc3 := hB.cell 3; have zf3 := hB.free 3; have zc4 := hB.cell 4; have zf4 := hB.free 4; have zc5 := hB.cell 5; have zf5 := hB.free 5; simp only [List.getElem?_cons_zero, List.getElem?_cons_succ] at zc0 zc1 zc2 zc3 zc4 zc5; clear hT hU hK; go_simp; first | exact hT' | exact ⟨hT', rfl⟩)); simp only [Act.put]
      refine lexg_val (fun _ => by rfl) ?_; apply Exists.intro; refine ⟨?_, ?_⟩; ((intro g L w' hU hT; have hT' := hT.upd (i := 20) (by decide) (by decide); obtain ⟨hc, hf⟩ := bcell hT.bel; clear hT hU; go_simp; exact rfl)); simp only [Act.put, List.setIfInBounds_toArray, List.set_cons_zero, List.set_cons_succ]
      refine lexg_nil ?_; intro g w3 hT; have bel_w3 := hT.bel; have n_w3 := (hT.blk rfl).1; have q_w3 := (hT.blk rfl).2; clear hT; rw [if_pos rfl] at q_w3; dsimp only; generalize g 18 = b3 at *; clear g
      have p3 : Below w.heap.size w w3 := (by repeat' (first | with_reducible exact Below.refl _ _ | with_reducible assumption | with_reducible refine bel_drew ?_ | with_reducible refine bel_alloc ?_ _ | with_reducible refine bel_set ?_ ?_ _ | with_reducible refine bel_call ?_ (by assumption) | (dsimp only; omega) | (simp; done) | (simp; omega)))
      have q3 := qc.below bel_w3
      clear r qc v rac0 rac1 rac2 rac3 rac4 rac5 rac6 rac7 rac8 rac9 raz vc0 vc1 vz x0 x1 xz p bel_w3 n_w3 C3
      obtain ⟨dc0, dc1, dc2, dc3, dc4, dc5, dz⟩ := q_w3.c6
      obtain ⟨qc0, qc1, qc2, qc3, qc4, qc5, qz⟩ := q3.c6
      go_wp2_with fail
      go_ret
      exact ⟨rfl, (by repeat' (first | with_reducible exact Below.refl _ _ | with_reducible assumption | with_reducible refine bel_drew ?_ | with_reducible refine bel_alloc ?_ _ | with_reducible refine bel_set ?_ ?_ _ | with_reducible refine bel_call ?_ (by assumption) | (dsimp only; omega) | (simp; done) | (simp; omega)))⟩
end Go.Proofs.Ytelofaceadlfmaa
