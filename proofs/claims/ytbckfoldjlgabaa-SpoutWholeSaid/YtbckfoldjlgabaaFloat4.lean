/- PLAIN: floats times powers of two; whole numbers as floats; floors. -/
import Derived.Test.YtbckfoldjlgabaaFloat3
open Ieee
namespace Go.Proofs.Ytbckfoldjlgabaa.Fl

theorem fbb : double.fractionBits = 52 := rfl
theorem rne_bound {n d k : Nat} (h : n < 2 ^ (k + d)) : rne n d ≤ 2 ^ k := by
  have h1 : n / 2 ^ d < 2 ^ k := Nat.div_lt_of_lt_mul (by rw [← Nat.pow_add, Nat.add_comm]; exact h)
  have := rne_le n d
  omega
theorem rv_small {n : Nat} (h : n < 2 ^ 53) : rv n = n := by
  unfold rv
  have hl : n.log2 ≤ 52 := by
    by_cases h0 : n = 0
    · subst h0; decide
    · have := (Nat.log2_lt h0 (k := 53)).2 h; omega
  rw [show n.log2 - 52 = 0 by omega, rne_zero]
  omega
theorem log2_big {n : Nat} (h : 2 ^ 53 ≤ n) : 53 ≤ n.log2 := by
  have h0 : n ≠ 0 := by have := Nat.two_pow_pos 53; omega
  exact (Nat.le_log2 h0).2 h
theorem rne_lo {n : Nat} (h : 2 ^ 53 ≤ n) : 2 ^ 52 ≤ rne n (n.log2 - 52) := by
  have h0 : n ≠ 0 := by have := Nat.two_pow_pos 53; omega
  have hl := log2_big h
  have b1 := Nat.log2_self_le h0
  refine Nat.le_trans ?_ (rne_ge n (n.log2 - 52))
  rw [Nat.le_div_iff_mul_le (Nat.two_pow_pos _), ← Nat.pow_add, show 52 + (n.log2 - 52) = n.log2 by omega]
  exact b1
theorem rne_hi {n : Nat} (h : 2 ^ 53 ≤ n) : rne n (n.log2 - 52) ≤ 2 ^ 53 := by
  have hl := log2_big h
  refine rne_bound ?_
  rw [show 53 + (n.log2 - 52) = n.log2 + 1 by omega]
  exact Nat.lt_log2_self
theorem rv_mono {n m : Nat} (h : n ≤ m) : rv n ≤ rv m := by
  rcases Nat.lt_or_ge m (2 ^ 53) with hm | hm
  · rw [rv_small hm, rv_small (Nat.lt_of_le_of_lt h hm)]
    exact h
  · have lm := log2_big hm
    have c2 := rne_lo hm
    have hm0 : m ≠ 0 := by have := Nat.two_pow_pos 53; omega
    rcases Nat.lt_or_ge n (2 ^ 53) with hn | hn
    · rw [rv_small hn]
      unfold rv
      generalize rne m (m.log2 - 52) = R at *
      generalize m.log2 = L at *
      clear h hm hm0
      have h1 : 1 * 2 ^ 52 ≤ (L - 52) * 2 ^ 52 := Nat.mul_le_mul_right _ (by omega)
      omega
    · have ln := log2_big hn
      have hn0 : n ≠ 0 := by have := Nat.two_pow_pos 53; omega
      have hll : n.log2 ≤ m.log2 := (Nat.le_log2 hm0).2 (Nat.le_trans (Nat.log2_self_le hn0) h)
      have d1 := rne_hi hn
      have h3 := fun d => rne_mono d h
      clear hm hn hm0 hn0 h
      unfold rv
      rcases Nat.lt_or_eq_of_le hll with hl | hl
      · clear h3
        generalize rne m (m.log2 - 52) = R at *
        generalize rne n (n.log2 - 52) = S at *
        generalize m.log2 = L at *
        generalize n.log2 = K at *
        have d2 : (K - 52 + 1) * 2 ^ 52 ≤ (L - 52) * 2 ^ 52 := Nat.mul_le_mul_right _ (by omega)
        omega
      · rw [hl]
        have := h3 (m.log2 - 52)
        omega

theorem nearest_shift (s : Bool) (m k : Nat) (i : Int) : double.nearest s (m * 2 ^ k) i = double.nearest s m (i + k) := by
  unfold Format.nearest
  by_cases h : m = 0
  · subst h; rw [Nat.zero_mul, if_pos rfl, if_pos rfl]
  · have h0 : m * 2 ^ k ≠ 0 := Nat.mul_ne_zero h (by have := Nat.two_pow_pos k; omega)
    rw [if_neg h0, if_neg h]
    simp only [lp, bn, ir, fbb, cut_even, Nat.shiftLeft_eq, log2_mul m k h]
    have e0 : max (i + ((m.log2 + k : Nat) : Int) - ((52 : Nat) : Int)) (-1074) = max (i + (k : Int) + (m.log2 : Nat) - ((52 : Nat) : Int)) (-1074) := by omega
    rw [e0]
    generalize max (i + (k : Int) + (m.log2 : Nat) - ((52 : Nat) : Int)) (-1074) = l
    have e : rne (m * 2 ^ k * 2 ^ (i - l).toNat) (l - i).toNat = rne (m * 2 ^ (i + k - l).toNat) (l - (i + k)).toNat := by
      rcases Int.le_total l i with h1 | h1
      · rw [show (l - i).toNat = 0 by omega, show (l - (i + k)).toNat = 0 by omega, Nat.mul_assoc, ← Nat.pow_add, show k + (i - l).toNat = (i + k - l).toNat by omega]
      · rw [show (i - l).toNat = 0 by omega, Nat.pow_zero, Nat.mul_one]
        rcases Int.le_total l (i + k) with h2 | h2
        · rw [show (l - (i + k)).toNat = 0 by omega, rne_zero]
          have e := rne_exact (m * 2 ^ (i + k - l).toNat) (l - i).toNat
          rw [Nat.mul_assoc, ← Nat.pow_add, show (i + k - l).toNat + (l - i).toNat = k by omega] at e
          exact e
        · rw [show (i + k - l).toNat = 0 by omega, Nat.pow_zero, Nat.mul_one]
          have e := rne_scale m (l - (i + k)).toNat k
          rw [show (l - (i + k)).toNat + k = (l - i).toNat by omega] at e
          exact e
    rw [e]

/-- the rung of M * 2^(e - 1075) -/
def scr (M : Nat) (e : Int) : Nat := if 2047 ≤ e then 2047 * 2 ^ 52 else if 1 ≤ e then (e - 1).toNat * 2 ^ 52 + M else rne M (1 - e).toNat
theorem nearest_scr (s : Bool) {M : Nat} (h1 : 2 ^ 52 ≤ M) (h2 : M < 2 ^ 53) (e : Int) : double.nearest s M (e - 1075) = double.word s (scr M e) := by
  have hl : M.log2 = 52 := by rw [Nat.log2_eq_iff (by omega)]; omega
  unfold Format.nearest
  rw [if_neg (by omega)]
  simp only [lp, bn, ir, fbb, cut_even, Nat.shiftLeft_eq, hl]
  congr 1
  unfold scr
  by_cases a : 1 ≤ e
  · have e1 : max (e - 1075 + ((52 : Nat) : Int) - ((52 : Nat) : Int)) (-1074) = e - 1075 := by omega
    rw [e1, show (e - 1075 - (e - 1075)).toNat = 0 by omega, rne_zero, Nat.pow_zero, Nat.mul_one]
    by_cases a2 : 2047 ≤ e
    · rw [if_pos a2]
      have : 2046 * 2 ^ 52 ≤ (e - 1075 - -1074).toNat * 2 ^ 52 := Nat.mul_le_mul_right _ (by omega)
      omega
    · rw [if_neg a2, if_pos a, show (e - 1075 - -1074).toNat = (e - 1).toNat by omega]
      have : (e - 1).toNat * 2 ^ 52 ≤ 2045 * 2 ^ 52 := Nat.mul_le_mul_right _ (by omega)
      omega
  · have e1 : max (e - 1075 + ((52 : Nat) : Int) - ((52 : Nat) : Int)) (-1074) = -1074 := by omega
    rw [e1, show (e - 1075 - -1074).toNat = 0 by omega, Nat.pow_zero, Nat.mul_one, if_neg (by omega), if_neg a, show (-1074 - (e - 1075)).toNat = (1 - e).toNat by omega]
    have : rne M (1 - e).toNat ≤ 2 ^ 53 := rne_bound (Nat.lt_of_lt_of_le h2 (Nat.pow_le_pow_right (by decide) (by omega)))
    omega

def mant (b : Nat) : Nat := if rung b < 2 ^ 52 then rung b else 2 ^ 52 + rung b % 2 ^ 52
def plc (b : Nat) : Int := -1074 + (rung b / 2 ^ 52 - 1 : Nat)
/-- the 53 bits and their exponent, of a number that is not zero -/
def nM (b : Nat) : Nat := if rung b < 2 ^ 52 then rung b * 2 ^ (52 - (rung b).log2) else 2 ^ 52 + rung b % 2 ^ 52
def nE (b : Nat) : Int := if rung b < 2 ^ 52 then 1 - ((52 - (rung b).log2 : Nat) : Int) else (rung b / 2 ^ 52 : Nat)
theorem nM_bounds {b : Nat} (h : rung b ≠ 0) : 2 ^ 52 ≤ nM b ∧ nM b < 2 ^ 53 := by
  unfold nM
  by_cases h1 : rung b < 2 ^ 52
  · rw [if_pos h1]
    have hl : (rung b).log2 < 52 := (Nat.log2_lt h).2 h1
    have a1 := Nat.log2_self_le h
    have a2 : rung b < 2 ^ ((rung b).log2 + 1) := Nat.lt_log2_self
    constructor
    · calc 2 ^ 52 = 2 ^ (rung b).log2 * 2 ^ (52 - (rung b).log2) := by rw [← Nat.pow_add]; congr 1; omega
        _ ≤ _ := Nat.mul_le_mul_right _ a1
    · calc rung b * 2 ^ (52 - (rung b).log2) < 2 ^ ((rung b).log2 + 1) * 2 ^ (52 - (rung b).log2) := Nat.mul_lt_mul_of_pos_right a2 (Nat.two_pow_pos _)
        _ = 2 ^ 53 := by rw [← Nat.pow_add]; congr 1; omega
  · rw [if_neg h1]; omega
theorem nearest_nM (s : Bool) (b : Nat) (n : Int) (h : rung b ≠ 0) : double.nearest s (mant b) (plc b + n) = double.word s (scr (nM b) (nE b + n)) := by
  have hb := nM_bounds h
  rw [← nearest_scr s hb.1 hb.2]
  unfold mant plc nM nE
  by_cases h1 : rung b < 2 ^ 52
  · have hl : (rung b).log2 < 52 := (Nat.log2_lt h).2 h1
    rw [if_pos h1, if_pos h1, if_pos h1, nearest_shift]
    congr 1
    omega
  · rw [if_neg h1, if_neg h1, if_neg h1]
    congr 1
    omega
theorem scr_self {b : Nat} (h : rung b ≠ 0) (hi : rung b < 2047 * 2 ^ 52) : scr (nM b) (nE b) = rung b := by
  unfold scr nM nE
  by_cases h1 : rung b < 2 ^ 52
  · have hl : (rung b).log2 < 52 := (Nat.log2_lt h).2 h1
    simp only [if_pos h1]
    rw [if_neg (by omega), if_neg (by omega), show (1 - (1 - ((52 - (rung b).log2 : Nat) : Int))).toNat = 52 - (rung b).log2 by omega, rne_exact]
  · simp only [if_neg h1]
    rw [if_neg (by omega), if_pos (by omega)]
    omega
theorem word_neg {b : Nat} (hb : b < 2 ^ 64) : double.word (neg b) (rung b) = b := by
  unfold Format.word neg rung
  simp only [sw, decide_eq_true_eq]
  split <;> omega
theorem neg_word {s : Bool} {r : Nat} (h : r < 2 ^ 63) : neg (double.word s r) = s := by
  unfold Format.word neg
  simp only [sw]
  cases s
  · simp; omega
  · simp
theorem rung_word {s : Bool} {r : Nat} (h : r < 2 ^ 63) : rung (double.word s r) = r := by
  unfold Format.word rung
  simp only [sw]
  cases s
  · simp; omega
  · simp; omega
/-- x times 2 to the n, rounded once -/
def scl (b : Nat) (n : Int) : Nat := if rung b = 0 ∨ 2047 * 2 ^ 52 ≤ rung b then canon b else double.word (neg b) (scr (nM b) (nE b + max (-5000) (min 5000 n)))
theorem scr_le {M : Nat} (h2 : M < 2 ^ 53) (e : Int) : scr M e ≤ 2047 * 2 ^ 52 := by
  unfold scr
  split
  · exact Nat.le_refl _
  · split
    · have : (e - 1).toNat * 2 ^ 52 ≤ 2045 * 2 ^ 52 := Nat.mul_le_mul_right _ (by omega)
      exact Nat.le_trans (Nat.add_le_add this (Nat.le_of_lt h2)) (by decide)
    · have : rne M (1 - e).toNat ≤ 2 ^ 53 := rne_bound (Nat.lt_of_lt_of_le h2 (Nat.pow_le_pow_right (by decide) (by omega)))
      omega
end Go.Proofs.Ytbckfoldjlgabaa.Fl
