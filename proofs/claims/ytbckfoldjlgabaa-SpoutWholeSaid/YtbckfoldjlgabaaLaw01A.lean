/- WALKS of repriselaw01: same, by, awake. -/
import Derived.Test.YtbckfoldjlgabaaFbitD
import Derived.Test.YtbckfoldjlgabaaRefA
namespace Go.Proofs.Ytbckfoldjlgabaa
open Go.RowKit
open Fl (nan key canon ord least most)

set_option maxHeartbeats 400000 in
theorem rsame_any (a b : Nat) (w : World) :
    Calls Try.prog 44 #[.float .f64 a, .float .f64 b] w fun e w' => e = .returned (.bool (decide (a = b))) ∧ w = w' := by
  have h : ((a : Int) == (b : Int)) = decide (a = b) := by
    by_cases h : a = b
    · subst h; simp
    · rw [decide_eq_false h]; simp; omega
  go_enter Try.func44, Try.ntmps44
  go_wp2
  go_ret
  exact ⟨by first | rfl | simp [h] | simp, rfl⟩
set_option maxHeartbeats 400000 in
theorem mnan_any (b : Nat) (w : World) (hb : b < 2 ^ 64) :
    Calls Try.prog 103 #[.float .f64 b] w fun e w' => e = .returned (.bool (nan b)) ∧ w = w' := by
  have h1 := neq_self 64 hb
  go_enter Try.func103, Try.ntmps103
  go_wp2
  go_ret
  exact ⟨rfl, rfl⟩
/-- math.normalize, of a number that is not small -/
theorem normal_any (b : Nat) (w : World) (hb : b < 2 ^ 64) (hn : nan b = false) (h : ¬ ab b < 4503599627370496) :
    Calls Try.prog 106 #[.float .f64 b] w fun e w' => e = .returned (.tuple #[.float .f64 b, .int .i64 0]) ∧ w = w' := by
  have h1 := lss_small 64 hn
  rw [decide_eq_false h] at h1
  have C1 := Lib.hid (fun w => abs_any b w hb)
  clear h hn hb
  go_enter Try.func106, Try.ntmps106
  go_wp2_with fail
  refine (C1.out _).mono ?_
  rintro e w' ⟨rfl, rfl⟩
  go_wp2_with fail
  go_ret2
  exact ⟨rfl, rfl⟩
set_option maxHeartbeats 2000000 in
set_option maxRecDepth 100000 in
/-- 3 * 2^2 -/
theorem scale32 (w : World) :
    Calls Try.prog 102 #[.float .f64 4613937818241073152, .int .i64 2] w fun e w' => e = .returned (.float .f64 4622945017495814144) ∧ w = w' := by
  have h1 := eql_zero 64 (b := 4613937818241073152) (by decide) (by decide)
  rw [show decide (ab 4613937818241073152 = 0) = false by decide] at h1
  have c1 := fun w => isInf_any 4613937818241073152 w (by decide)
  rw [show decide (ab 4613937818241073152 = 9218868437227405312) = false by decide] at c1
  have c2 := fun w => mnan_any 4613937818241073152 w (by decide)
  rw [show nan 4613937818241073152 = false by decide] at c2
  have c3 := fun w => normal_any 4613937818241073152 w (by decide) (by decide) (by decide)
  have h2 := fun w => run_float_arith (P := Try.prog) w .mul 64 .f64 4607182418800017408 4622945017495814144 4622945017495814144 (by decide +kernel)
  have e1 : bits .and .i64 1024 2047 = 1024 := by decide +kernel
  have e2 : wrap64 1 = 1 := by unfold wrap64; omega
  have e3 : wrap64 3 = 3 := by unfold wrap64; omega
  have e6 : wrap64 1026 = 1026 := by unfold wrap64; omega
  have e4 : bits .andNot .u64 4613937818241073152 9218868437227405312 = 2251799813685248 := by decide +kernel
  have e5 : bits .or .u64 2251799813685248 4620693217682128896 = 4622945017495814144 := by decide +kernel
  have C1 := Lib.hid c1
  have C2 := Lib.hid c2
  have C3 := Lib.hid c3
  clear c1 c2 c3
  go_enter Try.func102, Try.ntmps102
  go_wp2_with fail
  refine (C1.out _).mono ?_
  rintro e w' ⟨rfl, rfl⟩
  go_wp2_with fail
  refine (C2.out _).mono ?_
  rintro e w' ⟨rfl, rfl⟩
  go_wp2_with fail
  refine (C3.out _).mono ?_
  rintro e w' ⟨rfl, rfl⟩
  go_wp2_with fail
  go_ret
  exact ⟨rfl, rfl⟩
set_option maxHeartbeats 1000000 in
theorem fscale32 (w : World) :
    Calls Try.prog 94 #[.float .f64 4613937818241073152, .int .i64 2] w fun e w' => e = .returned (.float .f64 4622945017495814144) ∧ w = w' := by
  have C1 := Lib.hid scale32
  have C2 : Hid (∀ w, Calls Try.prog 98 #[.float .f64 4613937818241073152, .int .i64 2] w fun e w' => e = .returned (.float .f64 4622945017495814144) ∧ w = w') := Lib.hid (fun w => by
    go_enter Try.func98, Try.ntmps98
    go_wp2_with fail
    refine (C1.out _).mono ?_
    rintro e w' ⟨rfl, rfl⟩
    go_wp2_with fail
    go_ret
    exact ⟨rfl, rfl⟩)
  have c3 := fun w => canon_any 4622945017495814144 w (by decide)
  rw [show canon 4622945017495814144 = 4622945017495814144 by decide] at c3
  have C3 := Lib.hid c3
  clear c3
  go_enter Try.func94, Try.ntmps94
  go_wp2_with fail
  refine (C2.out _).mono ?_
  rintro e w' ⟨rfl, rfl⟩
  go_wp2_with fail
  refine (C3.out _).mono ?_
  rintro e w' ⟨rfl, rfl⟩
  go_wp2_with fail
  go_ret
  exact ⟨rfl, rfl⟩
end Go.Proofs.Ytbckfoldjlgabaa
