/- WALK of FbitWhole. -/
import Derived.Test.YticlnanekjfdoaaFloat7
namespace Go.Proofs.Yticlnanekjfdoaa
open Go.RowKit
open Fl (nan key canon)
set_option maxRecDepth 100000 in
set_option maxHeartbeats 4000000 in
theorem whole_any (n m : Int) (w : World) :
    Calls Try.prog 10 #[.int .i64 n, .int .i64 m] w fun e w' => e = .returned (.bool true) ∧ Below w.heap.size w w' := by
  have C1 := Lib.hid awake_any
  have CS : Hid (∀ a w, Calls Try.prog 14 #[.float .f64 a, .float .f64 a] w fun e w' => e = .returned (.bool true) ∧ w = w') := Lib.hid (fun a w => by have c := same_any a a w; rw [decide_eq_true rfl] at c; exact c)
  have hX := Fl.ofInt_lt n
  have C2 := Lib.hid (fun w => of_any n w)
  have C3 := Lib.hid (fun w => of_any m w)
  have c4 := fun w => fwhole_any _ w hX
  have c5 := fun w => ffloor_any _ w hX
  have g1 := gtr_num 24 (b := 0) hX (by decide) (Fl.nan_ofInt n) (by decide)
  have g2 := lss_num 24 (b := 0) hX (by decide) (Fl.nan_ofInt n) (by decide)
  have g3 := leq_num 24 hX (Fl.ofInt_lt m) (Fl.nan_ofInt n) (Fl.nan_ofInt m)
  have k0 : key 0 = 0 := by decide
  have e1 : decide (key 0 < key (floatOfInt .f64 n)) = decide (0 < n) := decide_eq_decide.2 (by rw [k0]; exact Fl.key_pos n)
  have e2 : decide (key (floatOfInt .f64 n) < key 0) = decide (n < 0) := decide_eq_decide.2 (by rw [k0]; exact Fl.key_neg n)
  rw [e1] at g1
  rw [e2] at g2
  have h4 : n.natAbs ≤ 2 ^ 53 → Fl.whole (floatOfInt .f64 n) = n ∧ floor (floatOfInt .f64 n) = floatOfInt .f64 n := fun h => ⟨Fl.whole_ofInt h, Fl.floor_ofInt h⟩
  have h0 : n = 0 → floatOfInt .f64 n = 0 := fun h => by rw [h]; exact Fl.ofInt_zero
  have h3 : n ≤ m → decide (key (floatOfInt .f64 n) ≤ key (floatOfInt .f64 m)) = true := fun h => decide_eq_true (Fl.key_mono h)
  generalize floatOfInt .f64 n = X at *
  generalize floatOfInt .f64 m = Y at *
  clear e1 e2 hX
  have p : Below w.heap.size w w := Below.refl _ _
  by_cases a1 : n ≤ 9007199254740992 ∧ -9007199254740992 ≤ n
  · rw [(h4 (by omega)).1] at c4
    rw [(h4 (by omega)).2] at c5
    have C4 := Lib.hid c4
    have C5 := Lib.hid c5
    obtain ⟨a2, a3⟩ := a1
    rcases Int.lt_trichotomy n 0 with a4 | a4 | a4 <;> by_cases a5 : n ≤ m
    all_goals
      try (rw [h3 a5] at g3)
      try (have h5 := h0 a4; subst a4; subst h5)
      clear c4 c5 h4 h3 h0
      try (have a6 : ¬ 0 < n := by omega)
      try (have a7 : ¬ n < 0 := by omega)
      try (have a8 : m < n := by omega)
      go_enter Try.func10, Try.ntmps10
      go_wp2_with fail
      refine (C1.out _).mono ?_
      rintro e v ⟨rfl, hb⟩
      replace p := bel_call p hb
      clear hb
      go_wp2_with fail
      refine (C2.out _).mono ?_
      rintro e v ⟨rfl, rfl⟩
      go_wp2_with fail
      refine (C4.out _).mono ?_
      rintro e v ⟨rfl, rfl⟩
      go_wp2_with fail
      refine (C5.out _).mono ?_
      rintro e v ⟨rfl, hb⟩
      replace p := bel_call p hb
      clear hb
      go_wp2_with fail
      refine (CS.out _ _).mono ?_
      rintro e v ⟨rfl, rfl⟩
      go_wp2_with fail
      try
        (refine (CS.out _ _).mono ?_
         rintro e v ⟨rfl, rfl⟩
         go_wp2_with fail)
      try
        (refine (C3.out _).mono ?_
         rintro e v ⟨rfl, rfl⟩
         go_wp2_with fail)
      go_ret
      exact ⟨rfl, p⟩
  · have a2 : (n < -9007199254740992) ∨ (9007199254740992 < n) := by omega
    clear a1 c4 c5 h4 h0
    rcases a2 with a2 | a2 <;> by_cases a5 : n ≤ m
    all_goals
      try (rw [h3 a5] at g3)
      clear h3
      first
        | (have a6 : ¬ 0 < n := by omega
           have a7 : n < 0 := by omega
           have a9 : n ≤ 9007199254740992 := by omega)
        | (have a6 : 0 < n := by omega
           have a7 : ¬ n < 0 := by omega)
      try (have a8 : m < n := by omega)
      have a10 : (n == 0) = false := by rw [beq_eq_false_iff_ne]; omega
      go_enter Try.func10, Try.ntmps10
      go_wp2_with fail
      refine (C1.out _).mono ?_
      rintro e v ⟨rfl, hb⟩
      replace p := bel_call p hb
      clear hb
      go_wp2_with fail
      refine (C2.out _).mono ?_
      rintro e v ⟨rfl, rfl⟩
      go_wp2_with fail
      try
        (refine (C3.out _).mono ?_
         rintro e v ⟨rfl, rfl⟩
         go_wp2_with fail)
      go_ret
      exact ⟨rfl, p⟩
end Go.Proofs.Yticlnanekjfdoaa
