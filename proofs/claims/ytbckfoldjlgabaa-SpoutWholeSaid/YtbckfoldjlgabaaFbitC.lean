/- WALKS of fbit: Class, Whole, Of, Floor, and what they call. -/
import Derived.Test.YtbckfoldjlgabaaFbitB
namespace Go.Proofs.Ytbckfoldjlgabaa
open Go.RowKit
open Fl (nan key canon)

theorem eql_num (t : TypeId) {a b : Nat} (ha : a < 2 ^ 64) (hb : b < 2 ^ 64) (na : nan a = false) (nb : nan b = false) : binOp .eql t (.float .f64 a) (.float .f64 b) = pure (.bool (decide (Fl.key a = Fl.key b))) := by
  rw [binOp_float_cmp_eql]; show pure (Value.bool (Ieee.double.order a b == some .eq)) = _; rw [Fl.eq_key ha hb na nb]
def ab (b : Nat) : Nat := b % 9223372036854775808
theorem ab_lt (b : Nat) : ab b < 2 ^ 64 := by unfold ab; omega
theorem key_ab (b : Nat) : key (ab b) = (ab b : Nat) := by
  unfold Fl.key ab
  rw [if_neg (by omega)]
theorem nan_ab (b : Nat) : nan (ab b) = nan b := by
  unfold Fl.nan ab
  rw [show b % 9223372036854775808 % 2 ^ 63 = b % 2 ^ 63 by omega]
theorem andNot_sign {b : Nat} (hb : b < 2 ^ 64) : bits .andNot .u64 (b : Int) 9223372036854775808 = ((b % 9223372036854775808 : Nat) : Int) := by
  have h := u64_andNot_nat b 9223372036854775808 hb (by decide)
  refine h.trans ?_
  rw [show 18446744073709551615 - 9223372036854775808 = 2 ^ 63 - 1 by decide, Nat.and_two_pow_sub_one_eq_mod]
set_option maxHeartbeats 400000 in
theorem abs_any (b : Nat) (w : World) (hb : b < 2 ^ 64) :
    Calls Try.prog 92 #[.float .f64 b] w fun e w' => e = .returned (.float .f64 (ab b)) ∧ w = w' := by
  unfold ab
  have h := andNot_sign hb
  go_enter Try.func92, Try.ntmps92
  go_wp2
  go_ret
  exact ⟨rfl, rfl⟩
theorem gtr_max (t : TypeId) (b : Nat) : binOp .gtr t (.float .f64 (ab b)) (.float .f64 9218868437227405311) = pure (.bool (decide (ab b = 9218868437227405312))) := by
  cases hn : nan b with
  | true =>
    rw [binOp_float_cmp_gtr]
    show pure (Value.bool (Ieee.double.order (ab b) _ == some .gt)) = _
    rw [Fl.order_nan_left ((nan_ab b).trans hn)]
    have h : ab b ≠ 9218868437227405312 := by rw [Fl.nan_iff] at hn; unfold ab; omega
    simp [h]
  | false =>
    rw [gtr_num t (ab_lt b) (by decide) ((nan_ab b).trans hn) (by decide), key_ab]
    have h : key 9218868437227405311 = 9218868437227405311 := by decide
    rw [h]
    rw [Fl.nan_false] at hn
    have e : (9218868437227405311 : Int) < (ab b : Nat) ↔ ab b = 9218868437227405312 := by unfold ab; omega
    simp only [e]
set_option maxHeartbeats 400000 in
theorem isInf_any (b : Nat) (w : World) (hb : b < 2 ^ 64) :
    Calls Try.prog 104 #[.float .f64 b, .int .i64 0] w fun e w' => e = .returned (.bool (decide (ab b = 9218868437227405312))) ∧ w = w' := by
  have h1 := gtr_max 64 b
  have c1 := fun w => abs_any b w hb
  have C1 := Lib.hid c1
  clear c1 hb
  generalize ab b = a at *
  go_enter Try.func104, Try.ntmps104
  go_wp2_with fail
  refine (C1.out _).mono ?_
  rintro e w' ⟨rfl, rfl⟩
  go_wp2_with fail
  go_ret
  exact ⟨rfl, rfl⟩
theorem eql_zero (t : TypeId) {b : Nat} (hb : b < 2 ^ 64) (hn : nan b = false) : binOp .eql t (.float .f64 b) (.float .f64 0) = pure (.bool (decide (ab b = 0))) := by
  rw [eql_num t hb (by decide) hn (by decide)]
  have e : key b = key 0 ↔ ab b = 0 := by
    unfold Fl.key ab
    split <;> simp <;> omega
  simp only [e]
theorem lss_small (t : TypeId) {b : Nat} (hn : nan b = false) : binOp .lss t (.float .f64 (ab b)) (.float .f64 4503599627370496) = pure (.bool (decide (ab b < 4503599627370496))) := by
  rw [lss_num t (ab_lt b) (by decide) ((nan_ab b).trans hn) (by decide), key_ab]
  have h : key 4503599627370496 = 4503599627370496 := by decide
  rw [h]
  have e : ((ab b : Nat) : Int) < 4503599627370496 ↔ ab b < 4503599627370496 := by omega
  simp only [e]
theorem cls_ab (b : Nat) : Fl.cls b = if nan b then 5 else if ab b = 9218868437227405312 then 4 else if ab b = 0 then 1 else if ab b < 4503599627370496 then 2 else 3 := by
  unfold Fl.cls ab
  cases nan b
  · simp only [Bool.false_eq_true, if_false]
    (repeat' split) <;> omega
  · rfl
end Go.Proofs.Ytbckfoldjlgabaa
