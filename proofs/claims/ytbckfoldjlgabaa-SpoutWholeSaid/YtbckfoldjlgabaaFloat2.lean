/- PLAIN: a float cut to a whole number. -/
import Derived.Test.YtbckfoldjlgabaaFloat
import Derived.Laws.FloatArith
open Ieee
namespace Go.Proofs.Ytbckfoldjlgabaa.Fl

/-- the whole part's size, below 2^63 -/
def whM (b : Nat) : Nat := if ex b < 1023 then 0 else if 1075 ≤ ex b then (2 ^ 52 + fr b) * 2 ^ (ex b - 1075) else (2 ^ 52 + fr b) / 2 ^ (1075 - ex b)
def sg (b n : Nat) : Int := if 2 ^ 63 ≤ b then -(n : Int) else n

theorem div_min (n d : Nat) : n / 2 ^ (min d (n.log2 + 2)) = n / 2 ^ d := by
  rcases Nat.le_total d (n.log2 + 2) with h | h
  · rw [Nat.min_eq_left h]
  · rw [Nat.min_eq_right h]
    have h1 : n < 2 ^ (n.log2 + 1) := Nat.lt_log2_self
    have h2 : 2 ^ (n.log2 + 1) ≤ 2 ^ (n.log2 + 2) := Nat.pow_le_pow_right (by decide) (by omega)
    have h3 : 2 ^ (n.log2 + 2) ≤ 2 ^ d := Nat.pow_le_pow_right (by decide) h
    rw [Nat.div_eq_of_lt (by omega), Nat.div_eq_of_lt (by omega)]
theorem cut_zero (s : Bool) (n d : Nat) : Toward.zero.cut s n d = n / 2 ^ d := by
  unfold Toward.cut
  simp only [Nat.one_shiftLeft, Bool.toNat_false, Nat.add_zero]
  exact div_min n d
theorem rung_ex {b : Nat} : rung b / 2 ^ 52 = ex b := by unfold rung ex; omega
theorem rung_fr {b : Nat} : rung b % 2 ^ 52 = fr b := by unfold rung fr; omega
theorem toInt_num {b : Nat} (hb : b < 2 ^ 64) (h : rung b < 2047 * 2 ^ 52) : (double.read b).toInt .zero = some (signed (neg b) (whM b) 0) := by
  rw [read_num hb h]
  unfold Datum.toInt Datum.integral
  simp only [cut_zero]
  congr 2
  rw [rung_ex, rung_fr]
  have hf : fr b < 2 ^ 52 := by unfold fr; omega
  have he : rung b < 2 ^ 52 ↔ ex b = 0 := by unfold rung ex; omega
  have hr : rung b = ex b * 2 ^ 52 + fr b := by unfold rung ex fr; omega
  have hp1 : (-1074 + ((ex b - 1 : Nat) : Int)).toNat = ex b - 1075 := by omega
  have hp2 : (-(-1074 + ((ex b - 1 : Nat) : Int))).toNat = min 1074 (1075 - ex b) := by omega
  rw [hp1, hp2, Nat.shiftLeft_eq]
  unfold whM
  generalize ex b = e at *
  generalize fr b = m at *
  clear hp1 hp2
  have hpow : ∀ d, 53 ≤ d → 2 ^ 52 + m < 2 ^ d := fun d h => by
    have h3 : 2 ^ 53 ≤ 2 ^ d := Nat.pow_le_pow_right (by decide) h
    omega
  by_cases h0 : e = 0
  · rw [if_pos (he.2 h0), if_pos (by omega), show e - 1075 = 0 by omega, show min 1074 (1075 - e) = 1074 by omega, hr, h0]
    refine Nat.div_eq_of_lt ?_
    have := hpow 1074 (by omega)
    omega
  · rw [if_neg (fun h' => h0 (he.1 h')), show min 1074 (1075 - e) = 1075 - e by omega]
    by_cases h1 : e < 1023
    · rw [if_pos h1, show e - 1075 = 0 by omega]
      refine Nat.div_eq_of_lt ?_
      have := hpow (1075 - e) (by omega)
      omega
    · rw [if_neg h1]
      by_cases h2 : 1075 ≤ e
      · rw [if_pos h2, show 1075 - e = 0 by omega, Nat.pow_zero, Nat.div_one]
      · rw [if_neg h2, show e - 1075 = 0 by omega, Nat.pow_zero, Nat.mul_one]
theorem whM_le {b : Nat} (h : ex b < 1086) : whM b < 2 ^ 63 := by
  have hf : fr b < 2 ^ 52 := by unfold fr; omega
  unfold whM
  split
  · exact Nat.two_pow_pos _
  · split
    · have h3 : 2 ^ (ex b - 1075) ≤ 2 ^ 10 := Nat.pow_le_pow_right (by decide) (by omega)
      have h4 : (2 ^ 52 + fr b) * 2 ^ (ex b - 1075) ≤ (2 ^ 53 - 1) * 2 ^ 10 := Nat.mul_le_mul (by omega) h3
      omega
    · have := Nat.div_le_self (2 ^ 52 + fr b) (2 ^ (1075 - ex b))
      omega
/-- what fbit.Whole gives -/
def whole (b : Nat) : Int := if nan b then 0 else if 1086 ≤ ex b then (if 2 ^ 63 ≤ b then -9223372036854775808 else 9223372036854775807) else sg b (whM b)
theorem floatToInt_num {b : Nat} (hb : b < 2 ^ 64) (h : ex b < 1086) : floatToIntVal .f64 b .i64 = some (sg b (whM b)) := by
  have e : (FloatKind.f64.decode b).toInt .zero = some (signed (neg b) (whM b) 0) := toInt_num hb (by unfold rung; unfold ex at h; omega)
  have h2 := whM_le h
  unfold floatToIntVal
  rw [e]
  have e2 : signed (neg b) (whM b) 0 = sg b (whM b) := by
    unfold signed sg neg
    simp only [decide_eq_true_eq, Nat.shiftLeft_zero]
  dsimp only
  rw [e2]
  have hm : IntKind.i64.min = -9223372036854775808 ∧ IntKind.i64.max = 9223372036854775807 := by decide
  rw [hm.1, hm.2]
  refine if_pos ?_
  unfold sg
  split <;> omega
end Go.Proofs.Ytbckfoldjlgabaa.Fl
