/- PLAIN: whole numbers there and back. -/
import Derived.Test.YtbckfoldjlgabaaRefF
namespace Go.Proofs.Ytbckfoldjlgabaa.Fl
open Ieee

theorem key_ofInt (n : Int) : key (floatOfInt .f64 n) = if n < 0 then -(rv (n.natAbs * U) : Int) else (rv (n.natAbs * U) : Int) := by
  rw [neg_rung (ofInt_lt n), ofInt_neg, ofInt_rung]
  simp only [decide_eq_true_eq]
theorem key_mono {n m : Int} (h : n ≤ m) : key (floatOfInt .f64 n) ≤ key (floatOfInt .f64 m) := by
  rw [key_ofInt, key_ofInt]
  have h1 := fun h' => rv_mono (n := n.natAbs * U) (m := m.natAbs * U) (Nat.mul_le_mul_right _ h')
  have h2 := fun h' => rv_mono (n := m.natAbs * U) (m := n.natAbs * U) (Nat.mul_le_mul_right _ h')
  generalize rv (n.natAbs * U) = x at *
  generalize rv (m.natAbs * U) = y at *
  by_cases hn : n < 0
  · rw [if_pos hn]
    by_cases hm : m < 0
    · rw [if_pos hm]; have := h2 (by omega); omega
    · rw [if_neg hm]; omega
  · rw [if_neg hn, if_neg (by omega)]; have := h1 (by omega); omega
theorem ofInt_zero : floatOfInt .f64 0 = 0 := by decide +kernel
theorem key_pos (n : Int) : 0 < key (floatOfInt .f64 n) ↔ 0 < n := by
  have h1 := rv_int (n := 1) (by decide)
  have h2 : 0 < n → rv (1 * U) ≤ rv (n.natAbs * U) := fun h => rv_mono (Nat.mul_le_mul_right _ (by omega))
  have h3 := h1.2.2 (by decide)
  rw [key_ofInt]
  generalize rv (1 * U) = x at *
  by_cases hn : n < 0
  · rw [if_pos hn]; omega
  · rw [if_neg hn]
    by_cases h0 : n = 0
    · subst h0
      rw [Int.natAbs_zero, Nat.zero_mul, rv_small (Nat.two_pow_pos 53)]
      simp
    · have := h2 (by omega)
      omega
theorem key_neg (n : Int) : key (floatOfInt .f64 n) < 0 ↔ n < 0 := by
  have h1 := rv_int (n := 1) (by decide)
  have h2 : n < 0 → rv (1 * U) ≤ rv (n.natAbs * U) := fun h => rv_mono (Nat.mul_le_mul_right _ (by omega))
  have h3 := h1.2.2 (by decide)
  rw [key_ofInt]
  generalize rv (1 * U) = x at *
  by_cases hn : n < 0
  · rw [if_pos hn]; have := h2 hn; omega
  · rw [if_neg hn]; omega
theorem ex_ofInt {n : Int} (h : n.natAbs ≤ 2 ^ 53) : ex (floatOfInt .f64 n) ≤ 1076 := by
  have h1 := (rv_int h).2.1
  rw [← rung_ex, ofInt_rung]
  omega
theorem whole_ofInt {n : Int} (h : n.natAbs ≤ 2 ^ 53) : whole (floatOfInt .f64 n) = n := by
  have he := ex_ofInt h
  rw [whole_fin (ofInt_lt n) (by omega), ofInt_neg, ofInt_rung, (rv_int h).1, Nat.mul_div_cancel _ U_pos]
  by_cases hn : n < 0
  · simp only [hn, decide_true, if_true]; omega
  · simp only [hn, decide_false, Bool.false_eq_true, if_false]; omega
theorem floor_ofInt {n : Int} (h : n.natAbs ≤ 2 ^ 53) : floor (floatOfInt .f64 n) = floatOfInt .f64 n := by
  by_cases he : 1075 ≤ ex (floatOfInt .f64 n)
  · rw [floor_far (ofInt_lt n) (.inr he), canon_num (nan_ofInt n)]
  · by_cases h0 : n = 0
    · subst h0; decide +kernel
    · have hr := (rv_int h).2.2 (by omega)
      have hU := U_pos
      rw [floor_near (ofInt_lt n) (by rw [ofInt_rung]; omega) (by omega), sval_ofInt h, Int.mul_ediv_cancel _ (by omega)]
theorem flip_xor {b : Nat} (hb : b < 2 ^ 64) : Go.Op.negFloat .f64 b = flip b := by
  show b ^^^ 2 ^ 63 = flip b
  have h1 : b = 2 ^ 63 * (b / 2 ^ 63) + b % 2 ^ 63 := (Nat.div_add_mod b (2 ^ 63)).symm
  have hm : b % 2 ^ 63 < 2 ^ 63 := Nat.mod_lt _ (by decide)
  refine Nat.eq_of_testBit_eq fun j => ?_
  have hf : flip b = 2 ^ 63 * (1 - b / 2 ^ 63) + b % 2 ^ 63 := by unfold flip; split <;> omega
  rw [hf, Nat.testBit_xor, Nat.testBit_two_pow_mul_add _ hm, Nat.testBit_two_pow]
  conv => lhs; rw [h1]
  rw [Nat.testBit_two_pow_mul_add _ hm]
  have hq : b / 2 ^ 63 = 0 ∨ b / 2 ^ 63 = 1 := by omega
  by_cases hj : j < 63
  · rw [if_pos hj, if_pos hj, decide_eq_false (by omega), Bool.xor_false]
  · rw [if_neg hj, if_neg hj]
    by_cases hj2 : 63 = j
    · subst hj2
      rcases hq with h | h <;> rw [h] <;> rfl
    · rw [decide_eq_false hj2, Bool.xor_false]
      obtain ⟨d, hd⟩ : ∃ d, j - 63 = d + 1 := ⟨j - 64, by omega⟩
      rw [hd]
      rcases hq with h | h <;> rw [h] <;> simp [Nat.testBit_succ]
end Go.Proofs.Ytbckfoldjlgabaa.Fl
