/- PLAIN: rounding to nearest, ties to even. -/
import Derived.Test.YtbckfoldjlgabaaFloat2
open Ieee
namespace Go.Proofs.Ytbckfoldjlgabaa.Fl

/-- n / 2^d to nearest, ties to even -/
def rne (n d : Nat) : Nat := n / 2 ^ d + (if 2 ^ d < 2 * (n % 2 ^ d) ∨ (2 ^ d = 2 * (n % 2 ^ d) ∧ n / 2 ^ d % 2 = 1) then 1 else 0)
theorem cut_even (s : Bool) (n d : Nat) : Toward.even.cut s n d = rne n d := by
  unfold Toward.cut
  simp only [Nat.one_shiftLeft]
  rcases Nat.le_total d (n.log2 + 2) with h | h
  · rw [Nat.min_eq_left h]
    unfold rne
    congr 1
    by_cases h1 : 2 ^ d < 2 * (n % 2 ^ d)
    · rw [if_pos (.inl h1)]; simp [h1]
    · by_cases h2 : 2 ^ d = 2 * (n % 2 ^ d) ∧ n / 2 ^ d % 2 = 1
      · rw [if_pos (.inr h2)]
        have e1 : (2 ^ d == 2 * (n % 2 ^ d)) = true := by simpa using h2.1
        have e2 : (n / 2 ^ d % 2 == 1) = true := by simpa using h2.2
        rw [e1, e2]; simp
      · rw [if_neg (by rintro (h' | h'); exact h1 h'; exact h2 h')]
        have e0 : decide (2 ^ d < 2 * (n % 2 ^ d)) = false := decide_eq_false h1
        rw [e0]
        by_cases h3 : 2 ^ d = 2 * (n % 2 ^ d)
        · have e2 : (n / 2 ^ d % 2 == 1) = false := by
            rw [beq_eq_false_iff_ne]; exact fun h' => h2 ⟨h3, h'⟩
          rw [e2]; simp
        · have e1 : (2 ^ d == 2 * (n % 2 ^ d)) = false := by rw [beq_eq_false_iff_ne]; exact h3
          rw [e1]; simp
  · rw [Nat.min_eq_right h]
    have h1 : n < 2 ^ (n.log2 + 1) := Nat.lt_log2_self
    have h2 : 2 ^ (n.log2 + 2) = 2 * 2 ^ (n.log2 + 1) := by rw [Nat.pow_succ]; omega
    have h3 : 2 ^ (n.log2 + 2) ≤ 2 ^ d := Nat.pow_le_pow_right (by decide) h
    have d1 : n / 2 ^ d = 0 := Nat.div_eq_of_lt (by omega)
    have d2 : n % 2 ^ d = n := Nat.mod_eq_of_lt (by omega)
    have d3 : n / 2 ^ (n.log2 + 2) = 0 := Nat.div_eq_of_lt (by omega)
    have d4 : n % 2 ^ (n.log2 + 2) = n := Nat.mod_eq_of_lt (by omega)
    unfold rne
    rw [d1, d2, d3, d4]
    rw [if_neg (by omega)]
    have e0 : decide (2 ^ (n.log2 + 2) < 2 * n) = false := decide_eq_false (by omega)
    rw [e0]
    simp
theorem rne_zero (n : Nat) : rne n 0 = n := by
  unfold rne
  rw [Nat.pow_zero, Nat.div_one, Nat.mod_one, if_neg (by omega)]; rfl
theorem rne_exact (k d : Nat) : rne (k * 2 ^ d) d = k := by
  have h : 0 < 2 ^ d := Nat.two_pow_pos d
  unfold rne
  rw [Nat.mul_div_cancel _ h, Nat.mul_mod_left, if_neg (by omega)]; rfl
theorem rne_le (n d : Nat) : rne n d ≤ n / 2 ^ d + 1 := by unfold rne; split <;> omega
theorem rne_ge (n d : Nat) : n / 2 ^ d ≤ rne n d := by unfold rne; omega
theorem rne_mono {n n' : Nat} (d : Nat) (h : n ≤ n') : rne n d ≤ rne n' d := by
  have h1 : n / 2 ^ d ≤ n' / 2 ^ d := Nat.div_le_div_right h
  rcases Nat.lt_or_ge (n / 2 ^ d) (n' / 2 ^ d) with h2 | h2
  · have := rne_le n d; have := rne_ge n' d; omega
  · have h3 : n / 2 ^ d = n' / 2 ^ d := by omega
    have e1 := Nat.div_add_mod n (2 ^ d)
    have e2 := Nat.div_add_mod n' (2 ^ d)
    rw [h3] at e1
    unfold rne
    rw [h3]
    have h4 : n % 2 ^ d ≤ n' % 2 ^ d := by omega
    split <;> split <;> omega
theorem rne_scale (n d k : Nat) : rne (n * 2 ^ k) (d + k) = rne n d := by
  have hk : 0 < 2 ^ k := Nat.two_pow_pos k
  unfold rne
  rw [Nat.pow_add, Nat.mul_div_mul_right _ _ hk, Nat.mul_mod_mul_right]
  congr 1
  have e1 : (2 ^ d * 2 ^ k < 2 * (n % 2 ^ d * 2 ^ k)) ↔ 2 ^ d < 2 * (n % 2 ^ d) := by
    rw [← Nat.mul_assoc]; exact Nat.mul_lt_mul_right hk
  have e2 : (2 ^ d * 2 ^ k = 2 * (n % 2 ^ d * 2 ^ k)) ↔ 2 ^ d = 2 * (n % 2 ^ d) := by
    rw [← Nat.mul_assoc]; exact Nat.mul_left_inj (by omega)
  simp only [e1, e2]

/-- the rung of m * 2^(P - 1074) -/
def rg (m P : Nat) : Nat := if m = 0 then 0 else min ((m.log2 + P - 52) * 2 ^ 52 + rne (m * 2 ^ (P - (m.log2 + P - 52))) (m.log2 + P - 52 - P)) (2047 * 2 ^ 52)
theorem nearest_rg (s : Bool) (m P : Nat) : double.nearest s m ((P : Int) - 1074) = double.word s (rg m P) := by
  unfold Format.nearest rg
  by_cases h : m = 0
  · rw [if_pos h, if_pos h]
  · rw [if_neg h, if_neg h]
    have fb : double.fractionBits = 52 := rfl
    simp only [lp, bn, ir, fb, cut_even, Nat.shiftLeft_eq]
    have e1 : max ((P : Int) - 1074 + (m.log2 : Nat) - ((52 : Nat) : Int)) (-1074) = ((m.log2 + P - 52 : Nat) : Int) - 1074 := by omega
    rw [e1]
    have e2 : ((P : Int) - 1074 - (((m.log2 + P - 52 : Nat) : Int) - 1074)).toNat = P - (m.log2 + P - 52) := by omega
    have e3 : (((m.log2 + P - 52 : Nat) : Int) - 1074 - ((P : Int) - 1074)).toNat = m.log2 + P - 52 - P := by omega
    have e4 : (((m.log2 + P - 52 : Nat) : Int) - 1074 - -1074).toNat = m.log2 + P - 52 := by omega
    rw [e2, e3, e4]
theorem log2_mul (m P : Nat) (h : m ≠ 0) : (m * 2 ^ P).log2 = m.log2 + P := by
  have h0 : m * 2 ^ P ≠ 0 := Nat.mul_ne_zero h (by have := Nat.two_pow_pos P; omega)
  rw [Nat.log2_eq_iff h0]
  have h1 := Nat.log2_self_le h
  have h2 : m < 2 ^ (m.log2 + 1) := Nat.lt_log2_self
  have h3 : 0 < 2 ^ P := Nat.two_pow_pos P
  refine ⟨?_, ?_⟩
  · rw [Nat.pow_add]; exact Nat.mul_le_mul_right _ h1
  · rw [show m.log2 + P + 1 = m.log2 + 1 + P by omega, Nat.pow_add]; exact Nat.mul_lt_mul_of_pos_right h2 h3
/-- .. by the number in units of 2^-1074 alone -/
theorem rg_val (m P : Nat) : rg m P = rg (m * 2 ^ P) 0 := by
  unfold rg
  by_cases h : m = 0
  · subst h; simp
  · have h0 : m * 2 ^ P ≠ 0 := Nat.mul_ne_zero h (by have := Nat.two_pow_pos P; omega)
    rw [if_neg h, if_neg h0, log2_mul m P h]
    congr 2
    rw [Nat.add_zero, Nat.zero_sub, Nat.pow_zero, Nat.mul_one, Nat.sub_zero]
    generalize m.log2 + P - 52 = t
    rcases Nat.le_total t P with h1 | h1
    · rw [show t - P = 0 by omega, rne_zero]
      have e := rne_exact (m * 2 ^ (P - t)) t
      rw [Nat.mul_assoc, ← Nat.pow_add, show P - t + t = P by omega] at e
      exact e.symm
    · rw [show P - t = 0 by omega, Nat.pow_zero, Nat.mul_one]
      have e := rne_scale m (t - P) P
      rw [show t - P + P = t by omega] at e
      exact e.symm
/-- .. as a function of the number in units of 2^-1074 -/
def rv (n : Nat) : Nat := min ((n.log2 - 52) * 2 ^ 52 + rne n (n.log2 - 52)) (2047 * 2 ^ 52)
theorem rg_rv (m P : Nat) : rg m P = rv (m * 2 ^ P) := by
  rw [rg_val]
  unfold rg rv
  by_cases h : m * 2 ^ P = 0
  · rw [if_pos h, h]; decide
  · rw [if_neg h]; simp
theorem rv_le (n : Nat) : rv n ≤ 2047 * 2 ^ 52 := Nat.min_le_right _ _
/-- exact where the number is a float -/
theorem rv_exact {r : Nat} (hr : r < 2047 * 2 ^ 52) : rv (val r) = r := by
  unfold rv
  by_cases h : r < 2 ^ 53
  · have e : val r = r := by
      unfold val
      by_cases h1 : r < 2 ^ 52
      · rw [if_pos h1]
      · rw [if_neg h1, show r / 2 ^ 52 - 1 = 0 by omega]; omega
    rw [e]
    have hl : r.log2 ≤ 52 := by
      by_cases h0 : r = 0
      · subst h0; decide
      · have := (Nat.log2_lt h0 (k := 53)).2 h; omega
    rw [show r.log2 - 52 = 0 by omega, rne_zero]
    omega
  · have hv : val r = (2 ^ 52 + r % 2 ^ 52) * 2 ^ (r / 2 ^ 52 - 1) := by unfold val; rw [if_neg (by omega)]
    have h0 : (2 ^ 52 + r % 2 ^ 52) ≠ 0 := by omega
    have hl : (val r).log2 = 52 + (r / 2 ^ 52 - 1) := by
      rw [hv, log2_mul _ _ h0]
      congr 1
      rw [Nat.log2_eq_iff h0]
      omega
    rw [hl, show 52 + (r / 2 ^ 52 - 1) - 52 = r / 2 ^ 52 - 1 by omega, hv, rne_exact]
    omega
end Go.Proofs.Ytbckfoldjlgabaa.Fl
