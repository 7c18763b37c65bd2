/- WALKS: Text of a sum; awake. -/
import Derived.Test.YtelofaceadlfmaaDoorAggO
import Derived.Test.YtelofaceadlfmaaDoorShelf
import Derived.Test.YtelofaceadlfmaaDoorRegionG
import Derived.Lib.AppendIntMem
namespace Go.Proofs.YtelofaceadlfmaaDoor
open Go.RowKit Fl
/-- the tables of the library lie as they are laid -/
def Tab (w : World) : Prop := Lib.TabIs Tryd.prog w "internal/strconv.uint64pow10" .u64 Lib.pow10Tab
theorem Tab.below {w w' : World} (h : Tab w) (hb : Below w.heap.size w w') : Tab w' := Lib.tabBelow_of_tabIs h w' hb
theorem below_grow (w : World) (k : Nat) (os : Array Obj) : Below w.heap.size w (Sort.grow (w.drewN k) os) := by
  have h : (w.drewN k).heap = w.heap := rfl
  refine ⟨rfl, rfl, rfl, ?_, fun i hi => ?_⟩
  · show w.heap.size ≤ (w.heap ++ os).size
    simp
  · show (w.heap ++ os)[i]? = _
    rw [Array.getElem?_append_left hi]
theorem i64_bounds (b : Int) : -9223372036854775808 ≤ wrap64 b ∧ wrap64 b ≤ 9223372036854775807 := by
  unfold wrap64
  omega
set_option maxHeartbeats 1000000 in
theorem text_sum (b : Nat) (w : World) (hb : b < 2 ^ 64) (ht : Tab w) :
    Calls Tryd.prog 18 #[.int .i64 2, .agg #[.bool true, .int .u64 (b : Int)]] w fun e w' => e = .returned (.string ⟨(Lib.itoa (wrap64 (b : Int))).toArray⟩) ∧ Below w.heap.size w w' := by
  have C1 := Lib.hid (fun w => known_any 2 w)
  have C2 := Lib.hid (fun w => fit_any 2 ⟨true, b⟩ w hb)
  have C3 : Hid (∀ w2, Below w.heap.size w w2 → Calls Tryd.prog 35 #[.int .i64 (wrap64 (b : Int)), .int .i64 10] w2 fun e w' => e = .returned (.string ⟨(Lib.itoa (wrap64 (b : Int))).toArray⟩) ∧ Below w2.heap.size w2 w') :=
    Lib.hid (fun w2 hb2 => (Tryd.strconv_FormatInt_10 _ (i64_bounds b).1 (i64_bounds b).2 w2 (ht.below hb2)).mono fun e w' ⟨he, k, os, hw⟩ => ⟨he, by rw [hw]; exact below_grow _ _ _⟩)
  have e1 : known 2 = true := rfl
  have e2 : fit 2 ⟨true, b⟩ = ⟨true, b⟩ := rfl
  rw [e1] at C1
  rw [e2] at C2
  generalize Lib.itoa (wrap64 (b : Int)) = T at *
  clear e1 e2 ht hb
  dsimp only at *
  go_enter Tryd.func18, Tryd.ntmps18
  go_wp2_with fail
  refine (C1.out _).mono ?_
  rintro e w1 ⟨rfl, rfl⟩
  go_wp2_with fail
  refine (C2.out _).mono ?_
  rintro e w1 ⟨rfl, hb⟩
  have p1 : Below w.heap.size w w1 := (by repeat' (first | with_reducible exact Below.refl _ _ | with_reducible assumption | with_reducible refine bel_drew ?_ | with_reducible refine bel_alloc ?_ _ | with_reducible refine bel_set ?_ ?_ _ | with_reducible refine bel_call ?_ (by assumption) | (dsimp only; omega) | (simp; done) | (simp; omega)))
  have q1 : Blk w1 w.heap.size [.bool true, .int .u64 (b : Int)] 27 := Blk.below (by repeat' (first | with_reducible assumption | (show (_ : List Value) = _; rfl) | with_reducible exact Blk.new _ _ rfl | (with_reducible refine Blk.new _ _ ?_; simp; done) | with_reducible apply Blk.set_eq | with_reducible apply Blk.other | with_reducible apply Blk.alloc | with_reducible apply Blk.drew | (simp; done) | (simp; omega))) hb
  clear hb
  have q1c0 : w1.cell? ⟨w.heap.size, 0, none⟩ = some (.bool true) := q1.cell 0; have q1c1 : w1.cell? ⟨w.heap.size, 1, none⟩ = some (.int .u64 (b : Int)) := q1.cell 1; have q1z := q1.lt
  have f0 := q1.free 0
  have f1 := q1.free 1
  go_wp2_with fail
  refine (C3.out _ (by repeat' (first | with_reducible exact Below.refl _ _ | with_reducible assumption | with_reducible refine bel_drew ?_ | with_reducible refine bel_alloc ?_ _ | with_reducible refine bel_set ?_ ?_ _ | with_reducible refine bel_call ?_ (by assumption) | (dsimp only; omega) | (simp; done) | (simp; omega)))).mono ?_
  rintro e w2 ⟨rfl, hb⟩
  have p2 : Below w.heap.size w w2 := (by repeat' (first | with_reducible exact Below.refl _ _ | with_reducible assumption | with_reducible refine bel_drew ?_ | with_reducible refine bel_alloc ?_ _ | with_reducible refine bel_set ?_ ?_ _ | with_reducible refine bel_call ?_ (by assumption) | (dsimp only; omega) | (simp; done) | (simp; omega)))
  clear hb
  go_wp2_with fail
  go_ret
  exact ⟨rfl, p2⟩
@[go_sem] theorem run_field_bits (a b : Value) (w : World) : (Instr.field 27 (.agg #[a, b]) 1).run Tryd.prog w = .ok b w := by kernel_rfl
theorem of_29 : ofV 2 13837084675114480435 = ⟨true, 18446744073709551614⟩ := by decide +kernel
theorem itoa_2 : Lib.itoa (wrap64 ((18446744073709551614 : Nat) : Int)) = [45, 50] := by decide +kernel
set_option maxHeartbeats 2000000 in
theorem aawake_any (w : World) (ht : Tab w) : Calls Tryd.prog 9 #[] w fun e w' => e = .returned (.bool true) ∧ Below w.heap.size w w' := by
  have C1 := Lib.hid (fun w => known_any 4 w)
  have C2 := Lib.hid (fun w => known_any 5 w)
  have C3 := Lib.hid (fun w => aof_any 2 13837084675114480435 w (by decide))
  have C4 := Lib.hid (fun w => aof_any 1 4617315517961601024 w (by decide))
  have C5 := Lib.hid (fun w => aof_any 1 4618441417868443648 w (by decide))
  have C6 := Lib.hid (fun w => merge_any 1 ⟨true, 1⟩ ⟨true, 1⟩ w (by unfold V.ok; decide) (by unfold V.ok; decide))
  have C7 : Hid (∀ w2, Below w.heap.size w w2 → Calls Tryd.prog 18 #[.int .i64 2, .agg #[.bool true, .int .u64 18446744073709551614]] w2 fun e w' => e = .returned (.string ⟨#[45, 50]⟩) ∧ Below w2.heap.size w2 w') :=
    Lib.hid (fun w2 hb => by have := text_sum 18446744073709551614 w2 (by decide) (ht.below hb); rw [itoa_2] at this; exact this)
  have C8 := Lib.hid (fun w => fit_any 1 ⟨true, 3⟩ w (by unfold V.ok; decide))
  rw [of_29] at C3
  rw [show known 4 = true from rfl] at C1
  rw [show known 5 = false from rfl] at C2
  rw [show ofV 1 4617315517961601024 = ⟨true, 1⟩ from rfl] at C4
  rw [show ofV 1 4618441417868443648 = ⟨true, 1⟩ from rfl] at C5
  rw [show merge 1 ⟨true, 1⟩ ⟨true, 1⟩ = ⟨true, 2⟩ by decide +kernel] at C6
  rw [show fit 1 ⟨true, 3⟩ = ⟨true, 3⟩ from rfl] at C8
  dsimp only at C3 C4 C5 C6 C8
  clear ht
  go_enter Tryd.func9, Tryd.ntmps9
  go_wp2_with fail
  refine (C1.out _).mono ?_
  rintro e w1 ⟨rfl, rfl⟩
  go_wp2_with fail
  refine (C2.out _).mono ?_
  rintro e w1 ⟨rfl, rfl⟩
  go_wp2_with fail
  refine (C3.out _).mono ?_
  rintro e w1 ⟨rfl, p1⟩
  go_wp2_with fail
  refine (C4.out _).mono ?_
  rintro e w2 ⟨rfl, hb⟩
  have p2 : Below w.heap.size w w2 := (by repeat' (first | with_reducible exact Below.refl _ _ | with_reducible assumption | with_reducible refine bel_drew ?_ | with_reducible refine bel_alloc ?_ _ | with_reducible refine bel_set ?_ ?_ _ | with_reducible refine bel_call ?_ (by assumption) | (dsimp only; omega) | (simp; done) | (simp; omega)))
  clear hb p1
  go_wp2_with fail
  refine (C5.out _).mono ?_
  rintro e w3 ⟨rfl, hb⟩
  have p3 : Below w.heap.size w w3 := (by repeat' (first | with_reducible exact Below.refl _ _ | with_reducible assumption | with_reducible refine bel_drew ?_ | with_reducible refine bel_alloc ?_ _ | with_reducible refine bel_set ?_ ?_ _ | with_reducible refine bel_call ?_ (by assumption) | (dsimp only; omega) | (simp; done) | (simp; omega)))
  clear hb p2
  go_wp2_with fail
  refine (C6.out _).mono ?_
  rintro e w4 ⟨rfl, hb⟩
  have p4 : Below w.heap.size w w4 := (by repeat' (first | with_reducible exact Below.refl _ _ | with_reducible assumption | with_reducible refine bel_drew ?_ | with_reducible refine bel_alloc ?_ _ | with_reducible refine bel_set ?_ ?_ _ | with_reducible refine bel_call ?_ (by assumption) | (dsimp only; omega) | (simp; done) | (simp; omega)))
  clear hb p3
  go_wp2_with fail
  refine (C3.out _).mono ?_
  rintro e w5 ⟨rfl, hb⟩
  have p5 : Below w.heap.size w w5 := (by repeat' (first | with_reducible exact Below.refl _ _ | with_reducible assumption | with_reducible refine bel_drew ?_ | with_reducible refine bel_alloc ?_ _ | with_reducible refine bel_set ?_ ?_ _ | with_reducible refine bel_call ?_ (by assumption) | (dsimp only; omega) | (simp; done) | (simp; omega)))
  clear hb p4
  go_wp2_with fail
  refine (C7.out _ p5).mono ?_
  rintro e w6 ⟨rfl, hb⟩
  have p6 : Below w.heap.size w w6 := (by repeat' (first | with_reducible exact Below.refl _ _ | with_reducible assumption | with_reducible refine bel_drew ?_ | with_reducible refine bel_alloc ?_ _ | with_reducible refine bel_set ?_ ?_ _ | with_reducible refine bel_call ?_ (by assumption) | (dsimp only; omega) | (simp; done) | (simp; omega)))
  clear hb p5
  go_wp2_with fail
  refine (C8.out _).mono ?_
  rintro e w7 ⟨rfl, hb⟩
  have p7 : Below w.heap.size w w7 := (by repeat' (first | with_reducible exact Below.refl _ _ | with_reducible assumption | with_reducible refine bel_drew ?_ | with_reducible refine bel_alloc ?_ _ | with_reducible refine bel_set ?_ ?_ _ | with_reducible refine bel_call ?_ (by assumption) | (dsimp only; omega) | (simp; done) | (simp; omega)))
  clear hb p6
  go_wp2_with fail
  go_ret
  exact ⟨rfl, p7⟩
end Go.Proofs.YtelofaceadlfmaaDoor
