/- WALKS of repriselaw01: same, by, awake. -/
import Derived.Test.YticlnanekjfdoaaFbitD
import Derived.Test.YticlnanekjfdoaaRefA
namespace Go.Proofs.Yticlnanekjfdoaa
open Go.RowKit
open Fl (nan key canon ord least most)

set_option maxHeartbeats 400000 in
theorem rsame_any (a b : Nat) (w : World) :
    Calls Try.prog 34 #[.float .f64 a, .float .f64 b] w fun e w' => e = .returned (.bool (decide (a = b))) ∧ w = w' := by
  have h : ((a : Int) == (b : Int)) = decide (a = b) := by
    by_cases h : a = b
    · subst h; simp
    · rw [decide_eq_false h]; simp; omega
  go_enter Try.func34, Try.ntmps34
  go_wp2
  go_ret
  exact ⟨by first | rfl | simp [h] | simp, rfl⟩
set_option maxHeartbeats 400000 in
theorem same_any (a b : Nat) (w : World) :
    Calls Try.prog 14 #[.float .f64 a, .float .f64 b] w fun e w' => e = .returned (.bool (decide (a = b))) ∧ w = w' := by
  have C1 := Lib.hid (rsame_any a b)
  generalize decide (a = b) = r at *
  go_enter Try.func14, Try.ntmps14
  go_wp2_with fail
  refine (C1.out _).mono ?_
  rintro e w' ⟨rfl, rfl⟩
  go_wp2_with fail
  go_ret
  exact ⟨rfl, rfl⟩
set_option maxHeartbeats 400000 in
theorem by_any (n : Nat) (w : World) :
    Calls Try.prog 29 #[.int .u64 n] w fun e w' => e = .returned (.float .f64 n) ∧ w = w' := by
  have C1 := Lib.hid (rfrom_any n)
  go_enter Try.func29, Try.ntmps29
  go_wp2_with fail
  refine (C1.out _).mono ?_
  rintro e w' ⟨rfl, rfl⟩
  go_wp2_with fail
  go_ret
  exact ⟨rfl, rfl⟩
set_option maxHeartbeats 400000 in
theorem mnan_any (b : Nat) (w : World) (hb : b < 2 ^ 64) :
    Calls Try.prog 53 #[.float .f64 b] w fun e w' => e = .returned (.bool (nan b)) ∧ w = w' := by
  have h1 := neq_self 24 hb
  go_enter Try.func53, Try.ntmps53
  go_wp2
  go_ret
  exact ⟨rfl, rfl⟩
/-- math.normalize, of a number that is not small -/
theorem normal_any (b : Nat) (w : World) (hb : b < 2 ^ 64) (hn : nan b = false) (h : ¬ ab b < 4503599627370496) :
    Calls Try.prog 55 #[.float .f64 b] w fun e w' => e = .returned (.tuple #[.float .f64 b, .int .i64 0]) ∧ w = w' := by
  have h1 := lss_small 24 hn
  rw [decide_eq_false h] at h1
  have C1 := Lib.hid (fun w => abs_any b w hb)
  clear h hn hb
  go_enter Try.func55, Try.ntmps55
  go_wp2_with fail
  refine (C1.out _).mono ?_
  rintro e w' ⟨rfl, rfl⟩
  go_wp2_with fail
  go_ret2
  exact ⟨rfl, rfl⟩
set_option maxHeartbeats 2000000 in
set_option maxRecDepth 100000 in
/-- 3 * 2^2 -/
theorem scale32 (w : World) :
    Calls Try.prog 52 #[.float .f64 4613937818241073152, .int .i64 2] w fun e w' => e = .returned (.float .f64 4622945017495814144) ∧ w = w' := by
  have h1 := eql_zero 24 (b := 4613937818241073152) (by decide) (by decide)
  rw [show decide (ab 4613937818241073152 = 0) = false by decide] at h1
  have c1 := fun w => isInf_any 4613937818241073152 w (by decide)
  rw [show decide (ab 4613937818241073152 = 9218868437227405312) = false by decide] at c1
  have c2 := fun w => mnan_any 4613937818241073152 w (by decide)
  rw [show nan 4613937818241073152 = false by decide] at c2
  have c3 := fun w => normal_any 4613937818241073152 w (by decide) (by decide) (by decide)
  have h2 := fun w => run_float_arith (P := Try.prog) w .mul 24 .f64 4607182418800017408 4622945017495814144 4622945017495814144 (by decide +kernel)
  have e1 : bits .and .i64 1024 2047 = 1024 := by decide +kernel
  have e2 : wrap64 1 = 1 := by unfold wrap64; omega
  have e3 : wrap64 3 = 3 := by unfold wrap64; omega
  have e6 : wrap64 1026 = 1026 := by unfold wrap64; omega
  have e4 : bits .andNot .u64 4613937818241073152 9218868437227405312 = 2251799813685248 := by decide +kernel
  have e5 : bits .or .u64 2251799813685248 4620693217682128896 = 4622945017495814144 := by decide +kernel
  have C1 := Lib.hid c1
  have C2 := Lib.hid c2
  have C3 := Lib.hid c3
  clear c1 c2 c3
  go_enter Try.func52, Try.ntmps52
  go_wp2_with fail
  refine (C1.out _).mono ?_
  rintro e w' ⟨rfl, rfl⟩
  go_wp2_with fail
  refine (C2.out _).mono ?_
  rintro e w' ⟨rfl, rfl⟩
  go_wp2_with fail
  refine (C3.out _).mono ?_
  rintro e w' ⟨rfl, rfl⟩
  go_wp2_with fail
  go_ret
  exact ⟨rfl, rfl⟩
set_option maxHeartbeats 1000000 in
theorem fscale32 (w : World) :
    Calls Try.prog 27 #[.float .f64 4613937818241073152, .int .i64 2] w fun e w' => e = .returned (.float .f64 4622945017495814144) ∧ w = w' := by
  have C1 := Lib.hid scale32
  have C2 : Hid (∀ w, Calls Try.prog 44 #[.float .f64 4613937818241073152, .int .i64 2] w fun e w' => e = .returned (.float .f64 4622945017495814144) ∧ w = w') := Lib.hid (fun w => by
    go_enter Try.func44, Try.ntmps44
    go_wp2_with fail
    refine (C1.out _).mono ?_
    rintro e w' ⟨rfl, rfl⟩
    go_wp2_with fail
    go_ret
    exact ⟨rfl, rfl⟩)
  have c3 := fun w => canon_any 4622945017495814144 w (by decide)
  rw [show canon 4622945017495814144 = 4622945017495814144 by decide] at c3
  have C3 := Lib.hid c3
  clear c3
  go_enter Try.func27, Try.ntmps27
  go_wp2_with fail
  refine (C2.out _).mono ?_
  rintro e w' ⟨rfl, rfl⟩
  go_wp2_with fail
  refine (C3.out _).mono ?_
  rintro e w' ⟨rfl, rfl⟩
  go_wp2_with fail
  go_ret
  exact ⟨rfl, rfl⟩
set_option maxHeartbeats 4000000 in
set_option maxRecDepth 100000 in
theorem awake_any (w : World) : Calls Try.prog 11 #[] w fun e w' => e = .returned (.bool true) ∧ Below w.heap.size w w' := by
  have c1 := fun w => fclass_any 4607182418800017408 w (by decide)
  rw [show Fl.cls 4607182418800017408 = 3 by decide] at c1
  have c2 := fun w => by_any 9223372036854775808 w
  have c3 := fun w => order_any 9223372036854775808 0 w (by decide) (by decide)
  rw [show ord 9223372036854775808 0 = -1 by decide] at c3
  have c4 := fun w => fwhole_any 13837084675114480435 w (by decide)
  rw [show Fl.whole 13837084675114480435 = -2 by decide +kernel] at c4
  have c5 := fun w => of_any 3 w
  rw [show floatOfInt .f64 3 = 4613937818241073152 by decide +kernel] at c5
  have c6 := fun w => ffloor_any 4602678819172646912 w (by decide)
  rw [show floor 4602678819172646912 = 0 by decide +kernel] at c6
  have c7 := fun w => ffloor_any 13826050856027422720 w (by decide)
  rw [show floor 13826050856027422720 = 13830554455654793216 by decide +kernel] at c7
  have c8 := fun w => least_any 4607182418800017408 4611686018427387904 w (by decide) (by decide)
  rw [show least 4607182418800017408 4611686018427387904 = 4607182418800017408 by decide +kernel] at c8
  have c9 := fun w => most_any 4607182418800017408 4611686018427387904 w (by decide) (by decide)
  rw [show most 4607182418800017408 4611686018427387904 = 4611686018427387904 by decide +kernel] at c9
  have c10 := fun w => canon_any 4617315517961601024 w (by decide)
  rw [show canon 4617315517961601024 = 4617315517961601024 by decide] at c10
  have cs := fun a w => same_any a a w
  simp only [decide_true] at cs
  have CS := Lib.hid cs
  have C1 := Lib.hid c1
  have C2 := Lib.hid c2
  have C3 := Lib.hid c3
  have C4 := Lib.hid c4
  have C5 := Lib.hid c5
  have C6 := Lib.hid c6
  have C7 := Lib.hid c7
  have C8 := Lib.hid c8
  have C9 := Lib.hid c9
  have C10 := Lib.hid c10
  have C11 := Lib.hid fscale32
  clear c1 c2 c3 c4 c5 c6 c7 c8 c9 c10 cs
  go_enter Try.func11, Try.ntmps11
  go_wp2_with fail
  refine (C1.out _).mono ?_
  rintro e w' ⟨rfl, rfl⟩
  go_wp2_with fail
  refine (C2.out _).mono ?_
  rintro e w' ⟨rfl, rfl⟩
  go_wp2_with fail
  refine (C3.out _).mono ?_
  rintro e v1 ⟨rfl, hb1⟩
  have p1 : Below w.heap.size w v1 := (by repeat' (first | with_reducible exact Below.refl _ _ | with_reducible assumption | with_reducible refine bel_drew ?_ | with_reducible refine bel_alloc ?_ _ | with_reducible refine bel_set ?_ ?_ _ | with_reducible refine bel_call ?_ (by assumption) | (dsimp only; omega) | (simp; done) | (simp; omega)))
  clear hb1
  go_wp2_with fail
  refine (C4.out _).mono ?_
  rintro e w' ⟨rfl, rfl⟩
  go_wp2_with fail
  refine (C5.out _).mono ?_
  rintro e w' ⟨rfl, rfl⟩
  go_wp2_with fail
  refine (CS.out _ _).mono ?_
  rintro e w' ⟨rfl, rfl⟩
  go_wp2_with fail
  refine (C6.out _).mono ?_
  rintro e v2 ⟨rfl, hb2⟩
  have p2 : Below w.heap.size w v2 := (by repeat' (first | with_reducible exact Below.refl _ _ | with_reducible assumption | with_reducible refine bel_drew ?_ | with_reducible refine bel_alloc ?_ _ | with_reducible refine bel_set ?_ ?_ _ | with_reducible refine bel_call ?_ (by assumption) | (dsimp only; omega) | (simp; done) | (simp; omega)))
  clear hb2
  go_wp2_with fail
  refine (CS.out _ _).mono ?_
  rintro e w' ⟨rfl, rfl⟩
  go_wp2_with fail
  refine (C7.out _).mono ?_
  rintro e v3 ⟨rfl, hb3⟩
  have p3 : Below w.heap.size w v3 := (by repeat' (first | with_reducible exact Below.refl _ _ | with_reducible assumption | with_reducible refine bel_drew ?_ | with_reducible refine bel_alloc ?_ _ | with_reducible refine bel_set ?_ ?_ _ | with_reducible refine bel_call ?_ (by assumption) | (dsimp only; omega) | (simp; done) | (simp; omega)))
  clear hb3
  go_wp2_with fail
  refine (CS.out _ _).mono ?_
  rintro e w' ⟨rfl, rfl⟩
  go_wp2_with fail
  refine (C11.out _).mono ?_
  rintro e w' ⟨rfl, rfl⟩
  go_wp2_with fail
  refine (CS.out _ _).mono ?_
  rintro e w' ⟨rfl, rfl⟩
  go_wp2_with fail
  refine (C8.out _).mono ?_
  rintro e v4 ⟨rfl, hb4⟩
  have p4 : Below w.heap.size w v4 := (by repeat' (first | with_reducible exact Below.refl _ _ | with_reducible assumption | with_reducible refine bel_drew ?_ | with_reducible refine bel_alloc ?_ _ | with_reducible refine bel_set ?_ ?_ _ | with_reducible refine bel_call ?_ (by assumption) | (dsimp only; omega) | (simp; done) | (simp; omega)))
  clear hb4
  go_wp2_with fail
  refine (CS.out _ _).mono ?_
  rintro e w' ⟨rfl, rfl⟩
  go_wp2_with fail
  refine (C9.out _).mono ?_
  rintro e v5 ⟨rfl, hb5⟩
  have p5 : Below w.heap.size w v5 := (by repeat' (first | with_reducible exact Below.refl _ _ | with_reducible assumption | with_reducible refine bel_drew ?_ | with_reducible refine bel_alloc ?_ _ | with_reducible refine bel_set ?_ ?_ _ | with_reducible refine bel_call ?_ (by assumption) | (dsimp only; omega) | (simp; done) | (simp; omega)))
  clear hb5
  go_wp2_with fail
  refine (CS.out _ _).mono ?_
  rintro e w' ⟨rfl, rfl⟩
  go_wp2_with fail
  refine (C10.out _).mono ?_
  rintro e w' ⟨rfl, rfl⟩
  go_wp2_with fail
  refine (CS.out _ _).mono ?_
  rintro e w' ⟨rfl, rfl⟩
  go_wp2_with fail
  go_ret
  exact ⟨rfl, (by repeat' (first | with_reducible exact Below.refl _ _ | with_reducible assumption | with_reducible refine bel_drew ?_ | with_reducible refine bel_alloc ?_ _ | with_reducible refine bel_set ?_ ?_ _ | with_reducible refine bel_call ?_ (by assumption) | (dsimp only; omega) | (simp; done) | (simp; omega)))⟩
end Go.Proofs.Yticlnanekjfdoaa
