/- WALKS of the references: the bits of a float, its class, its place. -/
import Derived.Test.YtelofaceadlfmaaDoorFbitB
namespace Go.Proofs.YtelofaceadlfmaaDoor
open Go.RowKit
open Fl (nan key canon ord least most rank)

set_option maxHeartbeats 400000 in
theorem rbits_any (b : Nat) (w : World) :
    Calls Tryd.prog 26 #[.float .f64 b] w fun e w' => e = .returned (.int .u64 (b : Int)) ∧ w = w' := by
  go_enter Tryd.func26, Tryd.ntmps26
  go_wp2
  go_ret
  exact ⟨rfl, rfl⟩
set_option maxHeartbeats 400000 in
theorem rfrom_any (b : Nat) (w : World) :
    Calls Tryd.prog 29 #[.int .u64 (b : Int)] w fun e w' => e = .returned (.float .f64 b) ∧ w = w' := by
  go_enter Tryd.func29, Tryd.ntmps29
  go_wp2
  go_ret
  exact ⟨rfl, rfl⟩
theorem ret2_int {k1 k2 : IntKind} {a b c d : Int} (h : a = b) (h' : c = d) : Ending.returned (.tuple #[.int k1 a, .int k2 c]) = .returned (.tuple #[.int k1 b, .int k2 d]) := by rw [h, h']
theorem ret_int {k : IntKind} {a b : Int} (h : a = b) : Ending.returned (.int k a) = .returned (.int k b) := by rw [h]
theorem and_mod {n : Nat} (k : Nat) (hn : n < 2 ^ 64) (hk : 2 ^ k - 1 < 2 ^ 64) : bits .and .u64 (n : Int) ((2 ^ k - 1 : Nat) : Int) = (n % 2 ^ k : Nat) := by
  rw [u64_and_nat n (2 ^ k - 1) hn hk, Nat.and_two_pow_sub_one_eq_mod]

set_option maxHeartbeats 400000 in
theorem parts_any (b : Nat) (w : World) (hb : b < 2 ^ 64) :
    Calls Tryd.prog 38 #[.float .f64 b] w fun e w' => e = .returned (.tuple #[.int .i64 (Fl.ex b), .int .u64 (Fl.fr b)]) ∧ w = w' := by
  have c1 := rbits_any b
  have C1 := Lib.hid c1
  clear c1
  go_enter Tryd.func38, Tryd.ntmps38
  go_wp2_with fail
  refine (C1.out _).mono ?_
  rintro e w' ⟨rfl, rfl⟩
  go_wp2_with fail
  go_ret2
  refine ⟨ret2_int ?_ ?_, rfl⟩
  · have h := and_mod (n := b / 4503599627370496) 11 (by omega) (by decide)
    have e1 : ((b / 4503599627370496 : Nat) : Int) = (b : Int) / 4503599627370496 := by omega
    rw [e1] at h
    show wrap64 (bits .and .u64 ((b : Int) / 4503599627370496) 2047) = _
    refine (congrArg wrap64 h).trans ?_
    unfold wrap64 Fl.ex
    omega
  · exact and_mod (n := b) 52 hb (by decide)

set_option maxHeartbeats 400000 in
theorem class_any (b : Nat) (w : World) (hb : b < 2 ^ 64) :
    Calls Tryd.prog 39 #[.float .f64 b] w fun e w' => e = .returned (.int .i64 (Fl.cls b)) ∧ w = w' := by
  have c1 := fun w => parts_any b w hb
  have hc := Fl.cls_cases b
  generalize Fl.ex b = e at *
  generalize Fl.fr b = m at *
  have C1 := Lib.hid c1
  clear c1 hb
  rcases hc with ⟨h, h1, h2⟩ | ⟨h, h1, h2⟩ | ⟨h, h1, h2⟩ | ⟨h, h1, h2⟩ | ⟨h, h1, h2⟩ <;> rw [h] <;> clear h
  · subst h1
    have h3 : ((m : Int) != 0) = true := by simpa using h2
    clear h2
    go_enter Tryd.func39, Tryd.ntmps39
    go_wp2_with fail
    refine (C1.out _).mono ?_
    rintro e w' ⟨rfl, rfl⟩
    go_wp2_with fail
    go_ret
    exact ⟨rfl, rfl⟩
  · subst h1 h2
    go_enter Tryd.func39, Tryd.ntmps39
    go_wp2_with fail
    refine (C1.out _).mono ?_
    rintro e w' ⟨rfl, rfl⟩
    go_wp2_with fail
    go_ret
    exact ⟨rfl, rfl⟩
  · have h3 : ((e : Int) == 2047) = false := by simp; omega
    have h4 : ((e : Int) != 0) = true := by simpa using h2
    clear h1 h2
    go_enter Tryd.func39, Tryd.ntmps39
    go_wp2_with fail
    refine (C1.out _).mono ?_
    rintro e w' ⟨rfl, rfl⟩
    go_wp2_with fail
    go_ret
    exact ⟨rfl, rfl⟩
  · subst h1
    have h3 : ((m : Int) != 0) = true := by simpa using h2
    clear h2
    go_enter Tryd.func39, Tryd.ntmps39
    go_wp2_with fail
    refine (C1.out _).mono ?_
    rintro e w' ⟨rfl, rfl⟩
    go_wp2_with fail
    go_ret
    exact ⟨rfl, rfl⟩
  · subst h1 h2
    go_enter Tryd.func39, Tryd.ntmps39
    go_wp2_with fail
    refine (C1.out _).mono ?_
    rintro e w' ⟨rfl, rfl⟩
    go_wp2_with fail
    go_ret
    exact ⟨rfl, rfl⟩

set_option maxHeartbeats 400000 in
theorem rcanon_any (b : Nat) (w : World) (hb : b < 2 ^ 64) :
    Calls Tryd.prog 27 #[.float .f64 b] w fun e w' => e = .returned (.float .f64 (canon b)) ∧ w = w' := by
  have c1 := fun w => class_any b w hb
  have C1 := Lib.hid c1
  have h1 := Fl.cls_nan b
  unfold canon
  clear c1 hb
  cases hn : nan b <;> rw [hn] at h1 <;> clear hn
  · go_enter Tryd.func27, Tryd.ntmps27
    go_wp2_with fail
    refine (C1.out _).mono ?_
    rintro e w' ⟨rfl, rfl⟩
    go_wp2_with fail
    go_ret
    exact ⟨rfl, rfl⟩
  · go_enter Tryd.func27, Tryd.ntmps27
    go_wp2_with fail
    refine (C1.out _).mono ?_
    rintro e w' ⟨rfl, rfl⟩
    go_wp2_with fail
    refine (rfrom_any 9221120237041090561 _).mono ?_
    rintro e w' ⟨rfl, rfl⟩
    go_wp2_with fail
    go_ret
    exact ⟨rfl, rfl⟩

set_option maxHeartbeats 400000 in
theorem rank_any (b : Nat) (w : World) (hb : b < 2 ^ 64) :
    Calls Tryd.prog 54 #[.float .f64 b] w fun e w' => e = .returned (.int .i64 (rank b)) ∧ w = w' := by
  have c1 := fun w => class_any b w hb
  have c2 := rbits_any b
  have C1 := Lib.hid c1
  have C2 := Lib.hid c2
  have h1 := Fl.cls_nan b
  have hr : nan b = false → 2 ^ 63 ≤ b → rank b = -1 - (b - 2 ^ 63) := fun h h' => by unfold rank; rw [h]; simp [h']
  have hs : nan b = false → ¬ 2 ^ 63 ≤ b → rank b = b := fun h h' => by unfold rank; rw [h]; simp [h']
  have ht : nan b = true → rank b = 9223372036854775807 := fun h => by unfold rank; rw [h]; rfl
  have hnn := Fl.nan_false (b := b)
  clear c1 c2
  cases hn : nan b <;> rw [hn] at h1
  · have hm := hnn.1 hn
    by_cases h2 : 2 ^ 63 ≤ b
    · have hR := Lib.hid (hr hn h2)
      have h3 : ¬ (b : Int) < 9223372036854775808 := by omega
      have H2 := Lib.hid h2
      have HB := Lib.hid hb
      have HM := Lib.hid hm
      clear hr hs ht hn hnn h2 hb hm
      go_enter Tryd.func54, Tryd.ntmps54
      go_wp2_with fail
      refine (C1.out _).mono ?_
      rintro e w' ⟨rfl, rfl⟩
      go_wp2_with fail
      refine (C2.out _).mono ?_
      rintro e w' ⟨rfl, rfl⟩
      go_wp2_with fail
      go_ret
      refine ⟨ret_int ?_, rfl⟩
      rw [hR.out]
      have := H2.out
      have := HB.out
      have := HM.out
      unfold wrap64
      rw [IntKind.wrap_u64]
      omega
    · have hR0 := hs hn h2
      have h3 : (b : Int) ≤ 9223372036854775807 := by omega
      have h4 : 0 ≤ (b : Int) := by omega
      have c2 := rbits_any b
      clear C2
      generalize (b : Int) = n at *
      have hR := Lib.hid hR0
      have C2 := Lib.hid c2
      clear hr hs ht hn hnn h2 hb hm hR0 c2
      go_enter Tryd.func54, Tryd.ntmps54
      go_wp2_with fail
      refine (C1.out _).mono ?_
      rintro e w' ⟨rfl, rfl⟩
      go_wp2_with fail
      refine (C2.out _).mono ?_
      rintro e w' ⟨rfl, rfl⟩
      go_wp2_with fail
      go_ret
      refine ⟨ret_int ?_, rfl⟩
      rw [hR.out]
  · rw [ht hn]
    clear hr hs ht hn hnn hb
    go_enter Tryd.func54, Tryd.ntmps54
    go_wp2_with fail
    refine (C1.out _).mono ?_
    rintro e w' ⟨rfl, rfl⟩
    go_wp2_with fail
    go_ret
    exact ⟨rfl, rfl⟩

set_option maxHeartbeats 400000 in
theorem rorder_any (a b : Nat) (w : World) (ha : a < 2 ^ 64) (hb : b < 2 ^ 64) :
    Calls Tryd.prog 41 #[.float .f64 a, .float .f64 b] w fun e w' => e = .returned (.int .i64 (ord a b)) ∧ w = w' := by
  have c1 := fun w => rank_any a w ha
  have c2 := fun w => rank_any b w hb
  have C1 := Lib.hid c1
  have C2 := Lib.hid c2
  unfold ord
  clear c1 c2 ha hb
  by_cases h1 : rank a < rank b
  · rw [if_pos h1]
    go_enter Tryd.func41, Tryd.ntmps41
    go_wp2_with fail
    refine (C1.out _).mono ?_
    rintro e w' ⟨rfl, rfl⟩
    go_wp2_with fail
    refine (C2.out _).mono ?_
    rintro e w' ⟨rfl, rfl⟩
    go_wp2_with fail
    go_ret
    exact ⟨rfl, rfl⟩
  · rw [if_neg h1]
    by_cases h2 : rank b < rank a
    · rw [if_pos h2]
      go_enter Tryd.func41, Tryd.ntmps41
      go_wp2_with fail
      refine (C1.out _).mono ?_
      rintro e w' ⟨rfl, rfl⟩
      go_wp2_with fail
      refine (C2.out _).mono ?_
      rintro e w' ⟨rfl, rfl⟩
      go_wp2_with fail
      go_ret
      exact ⟨rfl, rfl⟩
    · rw [if_neg h2]
      go_enter Tryd.func41, Tryd.ntmps41
      go_wp2_with fail
      refine (C1.out _).mono ?_
      rintro e w' ⟨rfl, rfl⟩
      go_wp2_with fail
      refine (C2.out _).mono ?_
      rintro e w' ⟨rfl, rfl⟩
      go_wp2_with fail
      go_ret
      exact ⟨rfl, rfl⟩

set_option maxHeartbeats 400000 in
theorem rleast_any (a b : Nat) (w : World) (ha : a < 2 ^ 64) (hb : b < 2 ^ 64) :
    Calls Tryd.prog 32 #[.float .f64 a, .float .f64 b] w fun e w' => e = .returned (.float .f64 (least a b)) ∧ w = w' := by
  have c1 := fun w => rorder_any a b w ha hb
  have c2 := fun w => rcanon_any a w ha
  have c3 := fun w => rcanon_any b w hb
  have C1 := Lib.hid c1
  have C2 := Lib.hid c2
  have C3 := Lib.hid c3
  unfold least
  clear c1 c2 c3 ha hb
  by_cases h : 0 < ord a b
  · rw [if_pos h]
    have h' : ¬ ord a b ≤ 0 := by omega
    go_enter Tryd.func32, Tryd.ntmps32
    go_wp2_with fail
    refine (C1.out _).mono ?_
    rintro e w' ⟨rfl, rfl⟩
    go_wp2_with fail
    refine (C3.out _).mono ?_
    rintro e w' ⟨rfl, rfl⟩
    go_wp2_with fail
    go_ret
    exact ⟨rfl, rfl⟩
  · rw [if_neg h]
    have h' : ord a b ≤ 0 := by omega
    go_enter Tryd.func32, Tryd.ntmps32
    go_wp2_with fail
    refine (C1.out _).mono ?_
    rintro e w' ⟨rfl, rfl⟩
    go_wp2_with fail
    refine (C2.out _).mono ?_
    rintro e w' ⟨rfl, rfl⟩
    go_wp2_with fail
    go_ret
    exact ⟨rfl, rfl⟩

set_option maxHeartbeats 400000 in
theorem rmost_any (a b : Nat) (w : World) (ha : a < 2 ^ 64) (hb : b < 2 ^ 64) :
    Calls Tryd.prog 33 #[.float .f64 a, .float .f64 b] w fun e w' => e = .returned (.float .f64 (most a b)) ∧ w = w' := by
  have c1 := fun w => rorder_any a b w ha hb
  have c2 := fun w => rcanon_any a w ha
  have c3 := fun w => rcanon_any b w hb
  have C1 := Lib.hid c1
  have C2 := Lib.hid c2
  have C3 := Lib.hid c3
  unfold most
  clear c1 c2 c3 ha hb
  by_cases h : ord a b < 0
  · rw [if_pos h]
    have h' : ¬ 0 ≤ ord a b := by omega
    go_enter Tryd.func33, Tryd.ntmps33
    go_wp2_with fail
    refine (C1.out _).mono ?_
    rintro e w' ⟨rfl, rfl⟩
    go_wp2_with fail
    refine (C3.out _).mono ?_
    rintro e w' ⟨rfl, rfl⟩
    go_wp2_with fail
    go_ret
    exact ⟨rfl, rfl⟩
  · rw [if_neg h]
    have h' : 0 ≤ ord a b := by omega
    go_enter Tryd.func33, Tryd.ntmps33
    go_wp2_with fail
    refine (C1.out _).mono ?_
    rintro e w' ⟨rfl, rfl⟩
    go_wp2_with fail
    refine (C2.out _).mono ?_
    rintro e w' ⟨rfl, rfl⟩
    go_wp2_with fail
    go_ret
    exact ⟨rfl, rfl⟩
end Go.Proofs.YtelofaceadlfmaaDoor
