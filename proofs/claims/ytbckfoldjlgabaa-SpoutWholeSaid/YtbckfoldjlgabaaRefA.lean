/- WALKS of the references: the bits of a float, its class, its place. -/
import Derived.Test.YtbckfoldjlgabaaFbitB
namespace Go.Proofs.Ytbckfoldjlgabaa
open Go.RowKit
open Fl (nan key canon ord least most rank)

set_option maxHeartbeats 400000 in
theorem rbits_any (b : Nat) (w : World) :
    Calls Try.prog 90 #[.float .f64 b] w fun e w' => e = .returned (.int .u64 (b : Int)) ∧ w = w' := by
  go_enter Try.func90, Try.ntmps90
  go_wp2
  go_ret
  exact ⟨rfl, rfl⟩
set_option maxHeartbeats 400000 in
theorem rfrom_any (b : Nat) (w : World) :
    Calls Try.prog 77 #[.int .u64 (b : Int)] w fun e w' => e = .returned (.float .f64 b) ∧ w = w' := by
  go_enter Try.func77, Try.ntmps77
  go_wp2
  go_ret
  exact ⟨rfl, rfl⟩
theorem ret2_int {k1 k2 : IntKind} {a b c d : Int} (h : a = b) (h' : c = d) : Ending.returned (.tuple #[.int k1 a, .int k2 c]) = .returned (.tuple #[.int k1 b, .int k2 d]) := by rw [h, h']
theorem ret_int {k : IntKind} {a b : Int} (h : a = b) : Ending.returned (.int k a) = .returned (.int k b) := by rw [h]
theorem and_mod {n : Nat} (k : Nat) (hn : n < 2 ^ 64) (hk : 2 ^ k - 1 < 2 ^ 64) : bits .and .u64 (n : Int) ((2 ^ k - 1 : Nat) : Int) = (n % 2 ^ k : Nat) := by
  rw [u64_and_nat n (2 ^ k - 1) hn hk, Nat.and_two_pow_sub_one_eq_mod]

set_option maxHeartbeats 400000 in
theorem parts_any (b : Nat) (w : World) (hb : b < 2 ^ 64) :
    Calls Try.prog 89 #[.float .f64 b] w fun e w' => e = .returned (.tuple #[.int .i64 (Fl.ex b), .int .u64 (Fl.fr b)]) ∧ w = w' := by
  have c1 := rbits_any b
  have C1 := Lib.hid c1
  clear c1
  go_enter Try.func89, Try.ntmps89
  go_wp2_with fail
  refine (C1.out _).mono ?_
  rintro e w' ⟨rfl, rfl⟩
  go_wp2_with fail
  go_ret2
  refine ⟨ret2_int ?_ ?_, rfl⟩
  · have h := and_mod (n := b / 4503599627370496) 11 (by omega) (by decide)
    have e1 : ((b / 4503599627370496 : Nat) : Int) = (b : Int) / 4503599627370496 := by omega
    rw [e1] at h
    show wrap64 (bits .and .u64 ((b : Int) / 4503599627370496) 2047) = _
    refine (congrArg wrap64 h).trans ?_
    unfold wrap64 Fl.ex
    omega
  · exact and_mod (n := b) 52 hb (by decide)

set_option maxHeartbeats 400000 in
theorem class_any (b : Nat) (w : World) (hb : b < 2 ^ 64) :
    Calls Try.prog 76 #[.float .f64 b] w fun e w' => e = .returned (.int .i64 (Fl.cls b)) ∧ w = w' := by
  have c1 := fun w => parts_any b w hb
  have hc := Fl.cls_cases b
  generalize Fl.ex b = e at *
  generalize Fl.fr b = m at *
  have C1 := Lib.hid c1
  clear c1 hb
  rcases hc with ⟨h, h1, h2⟩ | ⟨h, h1, h2⟩ | ⟨h, h1, h2⟩ | ⟨h, h1, h2⟩ | ⟨h, h1, h2⟩ <;> rw [h] <;> clear h
  · subst h1
    have h3 : ((m : Int) != 0) = true := by simpa using h2
    clear h2
    go_enter Try.func76, Try.ntmps76
    go_wp2_with fail
    refine (C1.out _).mono ?_
    rintro e w' ⟨rfl, rfl⟩
    go_wp2_with fail
    go_ret
    exact ⟨rfl, rfl⟩
  · subst h1 h2
    go_enter Try.func76, Try.ntmps76
    go_wp2_with fail
    refine (C1.out _).mono ?_
    rintro e w' ⟨rfl, rfl⟩
    go_wp2_with fail
    go_ret
    exact ⟨rfl, rfl⟩
  · have h3 : ((e : Int) == 2047) = false := by simp; omega
    have h4 : ((e : Int) != 0) = true := by simpa using h2
    clear h1 h2
    go_enter Try.func76, Try.ntmps76
    go_wp2_with fail
    refine (C1.out _).mono ?_
    rintro e w' ⟨rfl, rfl⟩
    go_wp2_with fail
    go_ret
    exact ⟨rfl, rfl⟩
  · subst h1
    have h3 : ((m : Int) != 0) = true := by simpa using h2
    clear h2
    go_enter Try.func76, Try.ntmps76
    go_wp2_with fail
    refine (C1.out _).mono ?_
    rintro e w' ⟨rfl, rfl⟩
    go_wp2_with fail
    go_ret
    exact ⟨rfl, rfl⟩
  · subst h1 h2
    go_enter Try.func76, Try.ntmps76
    go_wp2_with fail
    refine (C1.out _).mono ?_
    rintro e w' ⟨rfl, rfl⟩
    go_wp2_with fail
    go_ret
    exact ⟨rfl, rfl⟩

set_option maxHeartbeats 400000 in
theorem rcanon_any (b : Nat) (w : World) (hb : b < 2 ^ 64) :
    Calls Try.prog 71 #[.float .f64 b] w fun e w' => e = .returned (.float .f64 (canon b)) ∧ w = w' := by
  have c1 := fun w => class_any b w hb
  have C1 := Lib.hid c1
  have h1 := Fl.cls_nan b
  unfold canon
  clear c1 hb
  cases hn : nan b <;> rw [hn] at h1 <;> clear hn
  · go_enter Try.func71, Try.ntmps71
    go_wp2_with fail
    refine (C1.out _).mono ?_
    rintro e w' ⟨rfl, rfl⟩
    go_wp2_with fail
    go_ret
    exact ⟨rfl, rfl⟩
  · go_enter Try.func71, Try.ntmps71
    go_wp2_with fail
    refine (C1.out _).mono ?_
    rintro e w' ⟨rfl, rfl⟩
    go_wp2_with fail
    refine (rfrom_any 9221120237041090561 _).mono ?_
    rintro e w' ⟨rfl, rfl⟩
    go_wp2_with fail
    go_ret
    exact ⟨rfl, rfl⟩

end Go.Proofs.Ytbckfoldjlgabaa
