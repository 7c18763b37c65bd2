/- PLAIN: whole numbers as floats; sums; floors. -/
import Derived.Test.YtbckfoldjlgabaaFloat4
open Ieee
namespace Go.Proofs.Ytbckfoldjlgabaa.Fl

/-- one, in units of the least place -/
def pw (k : Nat) : Nat := 2 ^ k
theorem pw_pos (k : Nat) : 0 < pw k := Nat.two_pow_pos k
theorem pw_eq (k : Nat) : pw k = 2 ^ k := rfl
theorem pw_add (a b : Nat) : pw (a + b) = pw a * pw b := Nat.pow_add 2 a b
theorem rg_pw (m P : Nat) : rg m P = rv (m * pw P) := rg_rv m P
def U : Nat := pw 1074
theorem U_pos : 0 < U := pw_pos 1074
theorem U_of {k : Nat} (h : k = 1074) : U = pw k := by rw [h]; rfl
theorem U_mul {a b : Nat} (h : a + b = 1074) : 2 ^ a * 2 ^ b = U := by rw [← pw_eq a, ← pw_eq b, ← pw_add]; exact (U_of h).symm
theorem U_mul_add {a b c : Nat} (h : a + b = 1074 + c) : 2 ^ a * 2 ^ b = U * 2 ^ c := by
  obtain ⟨K, hK⟩ : ∃ K, K = 1074 := ⟨_, rfl⟩
  rw [U_of hK, ← pw_eq a, ← pw_eq b, ← pw_eq c, ← pw_add, ← pw_add, h, hK]
theorem ofInt_eq (n : Int) : floatOfInt .f64 n = double.word (decide (n < 0)) (rv (n.natAbs * U)) := by
  show double.nearest (decide (n < 0)) n.natAbs 0 = _
  have h := nearest_rg (decide (n < 0)) n.natAbs 1074
  rw [rg_pw] at h
  exact h
theorem rv_lt (n : Nat) : rv n < 2 ^ 63 := by have := rv_le n; omega
theorem ofInt_lt (n : Int) : floatOfInt .f64 n < 2 ^ 64 := double.nearest_lt _ _ _
theorem ofInt_neg (n : Int) : neg (floatOfInt .f64 n) = decide (n < 0) := by rw [ofInt_eq, neg_word (rv_lt _)]
theorem ofInt_rung (n : Int) : rung (floatOfInt .f64 n) = rv (n.natAbs * U) := by rw [ofInt_eq, rung_word (rv_lt _)]
theorem sval_neg (b : Nat) : sval b = if neg b then -(val (rung b) : Int) else val (rung b) := by
  unfold sval neg
  by_cases h : 2 ^ 63 ≤ b <;> simp [h]
theorem val_top {r n : Nat} (hr : r = 1076 * 2 ^ 52) (hn : n = 2 ^ 53) : val r = n * U := by
  obtain ⟨K, hK⟩ : ∃ K, K = 1074 := ⟨_, rfl⟩
  rw [U_of hK]
  unfold val
  rw [if_neg (by omega), show r / 2 ^ 52 - 1 = 1 + K by omega, show r % 2 ^ 52 = 0 by omega, Nat.pow_add, Nat.add_zero, ← Nat.mul_assoc, hn]
  rfl
/-- a whole number of at most 53 bits is a float -/
theorem rep {n : Nat} (h0 : n ≠ 0) (h : n ≤ 2 ^ 53) : ∃ r, 0 < r ∧ 1023 * 2 ^ 52 ≤ r ∧ r ≤ 1076 * 2 ^ 52 ∧ val r = n * U := by
  have key : ∀ m k : Nat, m ≠ 0 → m < 2 ^ 53 → k ≤ 1 → ∃ r, 0 < r ∧ 1023 * 2 ^ 52 ≤ r ∧ r < (1076 + k) * 2 ^ 52 ∧ val r = m * 2 ^ k * U := by
    intro m k m0 m1 hk
    have hl : m.log2 ≤ 52 := by have := (Nat.log2_lt m0 (k := 53)).2 m1; omega
    have a1 := Nat.log2_self_le m0
    have a2 : m < 2 ^ (m.log2 + 1) := Nat.lt_log2_self
    have b1 : 2 ^ 52 ≤ m * 2 ^ (52 - m.log2) := by
      calc 2 ^ 52 = 2 ^ m.log2 * 2 ^ (52 - m.log2) := by rw [← Nat.pow_add]; congr 1; omega
        _ ≤ _ := Nat.mul_le_mul_right _ a1
    have b2 : m * 2 ^ (52 - m.log2) < 2 ^ 53 := by
      calc m * 2 ^ (52 - m.log2) < 2 ^ (m.log2 + 1) * 2 ^ (52 - m.log2) := Nat.mul_lt_mul_of_pos_right a2 (Nat.two_pow_pos _)
        _ = 2 ^ 53 := by rw [← Nat.pow_add]; congr 1; omega
    have e : m * 2 ^ (52 - m.log2) * 2 ^ (1022 + k + m.log2) = m * 2 ^ k * U := by
      rw [Nat.mul_assoc, U_mul_add (c := k) (by omega), Nat.mul_assoc, Nat.mul_comm U]
    generalize m * 2 ^ (52 - m.log2) = M at *
    have d1 : ((1022 + k + m.log2) * 2 ^ 52 + M) / 2 ^ 52 = 1023 + k + m.log2 := by omega
    have d2 : ((1022 + k + m.log2) * 2 ^ 52 + M) % 2 ^ 52 = M - 2 ^ 52 := by omega
    refine ⟨(1022 + k + m.log2) * 2 ^ 52 + M, by omega, by omega, by omega, ?_⟩
    unfold val
    rw [if_neg (by omega), d1, d2, ← e, show 2 ^ 52 + (M - 2 ^ 52) = M by omega, show 1023 + k + m.log2 - 1 = 1022 + k + m.log2 by omega]
  rcases Nat.lt_or_eq_of_le h with h1 | h1
  · obtain ⟨r, r0, r3, r1, r2⟩ := key n 0 h0 h1 (by omega)
    exact ⟨r, r0, r3, by omega, by rw [r2, Nat.pow_zero, Nat.mul_one]⟩
  · obtain ⟨r, hr⟩ : ∃ r, r = 1076 * 2 ^ 52 := ⟨_, rfl⟩
    exact ⟨r, by omega, by omega, by omega, val_top hr h1⟩
theorem rv_int {n : Nat} (h : n ≤ 2 ^ 53) : val (rv (n * U)) = n * U ∧ rv (n * U) ≤ 1076 * 2 ^ 52 ∧ (n ≠ 0 → 1023 * 2 ^ 52 ≤ rv (n * U)) := by
  by_cases h0 : n = 0
  · subst h0
    rw [Nat.zero_mul, rv_small (Nat.two_pow_pos 53), val_zero]
    exact ⟨rfl, Nat.zero_le _, fun h => absurd rfl h⟩
  · obtain ⟨r, _, r3, r1, r2⟩ := rep h0 h
    rw [← r2, rv_exact (by omega)]
    exact ⟨rfl, r1, fun _ => r3⟩
theorem sval_ofInt {n : Int} (h : n.natAbs ≤ 2 ^ 53) : sval (floatOfInt .f64 n) = n * U := by
  rw [sval_neg, ofInt_neg, ofInt_rung, (rv_int h).1]
  rw [Int.natCast_mul]
  by_cases h0 : n < 0
  · simp only [h0, decide_true, if_true]
    rw [← Int.neg_mul]; congr 1; omega
  · simp only [h0, decide_false, Bool.false_eq_true, if_false]
    congr 1; omega
theorem fin_ofInt {n : Int} (h : n.natAbs ≤ 2 ^ 53) : rung (floatOfInt .f64 n) < 2047 * 2 ^ 52 := by
  rw [ofInt_rung]; have := (rv_int h).2.1; omega
theorem nan_ofInt (n : Int) : nan (floatOfInt .f64 n) = false := by
  rw [nan_false]; have := ofInt_rung n; unfold rung at this; rw [this]; exact rv_le _

/-- the sign turned -/
def flip (b : Nat) : Nat := if 2 ^ 63 ≤ b then b - 2 ^ 63 else b + 2 ^ 63
theorem flip_lt {b : Nat} (h : b < 2 ^ 64) : flip b < 2 ^ 64 := by unfold flip; split <;> omega
theorem flip_neg {b : Nat} (h : b < 2 ^ 64) : neg (flip b) = !neg b := by
  unfold flip neg
  by_cases h1 : 2 ^ 63 ≤ b
  · rw [if_pos h1, decide_eq_true h1, decide_eq_false (by omega)]; rfl
  · rw [if_neg h1, decide_eq_false h1, decide_eq_true (by omega)]; rfl
theorem flip_rung {b : Nat} (h : b < 2 ^ 64) : rung (flip b) = rung b := by
  unfold flip rung
  split <;> omega
theorem flip_sval {b : Nat} (h : b < 2 ^ 64) : sval (flip b) = -sval b := by
  rw [sval_neg, sval_neg, flip_neg h, flip_rung h]
  cases neg b <;> simp
theorem flip_nan {b : Nat} (h : b < 2 ^ 64) : nan (flip b) = nan b := by
  have := flip_rung h
  unfold nan; unfold rung at this; rw [this]
theorem read_flip {b : Nat} (hb : b < 2 ^ 64) (h : nan b = false) : double.read (flip b) = (double.read b).opposite := by
  have e1 := flip_rung hb
  have e2 := flip_neg hb
  rw [nan_false] at h
  rcases Nat.lt_or_ge (rung b) (2047 * 2 ^ 52) with h1 | h1
  · rw [read_num hb h1, read_num (flip_lt hb) (by rw [e1]; exact h1), e1, e2]; rfl
  · have h2 : rung b = 2047 * 2 ^ 52 := by unfold rung at h1 ⊢; omega
    rw [read_inf hb h2, read_inf (flip_lt hb) (by rw [e1]; exact h2), e2]; rfl
theorem sub_flip {a b : Nat} (hb : b < 2 ^ 64) (h : nan b = false) : double.sub a b = double.add a (flip b) := by
  unfold Format.sub Format.add
  rw [read_flip hb h]

theorem add_num {a b : Nat} (ha : a < 2 ^ 64) (hb : b < 2 ^ 64) (fa : rung a < 2047 * 2 ^ 52) (fb : rung b < 2047 * 2 ^ 52) :
    double.add a b = some (double.word (if sval a + sval b = 0 then neg a && neg b else decide (sval a + sval b < 0)) (rv (sval a + sval b).natAbs)) := by
  have e1 := signed_sval (b := a)
  have e2 := signed_sval (b := b)
  unfold Format.add
  rw [read_num ha fa, read_num hb fb]
  unfold Datum.sum
  simp only [Option.map_some, Option.some.injEq]
  generalize (if rung a < 2 ^ 52 then rung a else 2 ^ 52 + rung a % 2 ^ 52) = m at *
  generalize (if rung b < 2 ^ 52 then rung b else 2 ^ 52 + rung b % 2 ^ 52) = n at *
  generalize rung a / 2 ^ 52 - 1 = p at *
  generalize rung b / 2 ^ 52 - 1 = q at *
  generalize neg a = s at *
  generalize neg b = t at *
  have f1 : (-1074 + (p : Int) - min (-1074 + (p : Int)) (-1074 + (q : Int))).toNat = p - min p q := by omega
  have f2 : (-1074 + (q : Int) - min (-1074 + (p : Int)) (-1074 + (q : Int))).toNat = q - min p q := by omega
  have f3 : min (-1074 + (p : Int)) (-1074 + (q : Int)) = ((min p q : Nat) : Int) - 1074 := by omega
  rw [f1, f2, f3]
  have g1 := signed_mul s m (p - min p q) (min p q)
  have g2 := signed_mul t n (q - min p q) (min p q)
  rw [show p - min p q + min p q = p by omega, e1] at g1
  rw [show q - min p q + min p q = q by omega, e2] at g2
  rw [← g1, ← g2, ← Int.add_mul]
  generalize signed s m (p - min p q) + signed t n (q - min p q) = T
  have hc := Nat.two_pow_pos (min p q)
  show double.nearest _ _ _ = _
  rw [nearest_rg, rg_rv]
  generalize 2 ^ min p q = c at *
  have hc' : (0 : Int) < c := by omega
  have z1 : T * (c : Int) = 0 ↔ T = 0 := by
    constructor
    · intro h; rcases Int.mul_eq_zero.1 h with h | h <;> omega
    · rintro rfl; simp
  have z2 : T * (c : Int) < 0 ↔ T < 0 := by
    constructor
    · intro h
      rcases Int.lt_or_le T 0 with h1 | h1
      · exact h1
      · have := Int.mul_nonneg h1 (Int.le_of_lt hc'); omega
    · intro h; exact Int.mul_neg_of_neg_of_pos h hc'
  rw [Int.natAbs_mul, Int.natAbs_natCast]
  simp only [z1, z2]
theorem add_int {m n : Int} (hm : m.natAbs ≤ 2 ^ 53) (hn : n.natAbs ≤ 2 ^ 53) : double.add (floatOfInt .f64 m) (floatOfInt .f64 n) = some (floatOfInt .f64 (m + n)) := by
  rw [add_num (ofInt_lt _) (ofInt_lt _) (fin_ofInt hm) (fin_ofInt hn), sval_ofInt hm, sval_ofInt hn, ← Int.add_mul, ofInt_eq (m + n), ofInt_neg, ofInt_neg, Int.natAbs_mul, Int.natAbs_natCast]
  have hU := U_pos
  generalize U = c at *
  have hc' : (0 : Int) < c := by omega
  have z1 : (m + n) * (c : Int) = 0 ↔ m + n = 0 := by
    constructor
    · intro h; rcases Int.mul_eq_zero.1 h with h | h <;> omega
    · intro h; rw [h]; simp
  have z2 : (m + n) * (c : Int) < 0 ↔ m + n < 0 := by
    constructor
    · intro h
      rcases Int.lt_or_le (m + n) 0 with h1 | h1
      · exact h1
      · have := Int.mul_nonneg h1 (Int.le_of_lt hc'); omega
    · intro h; exact Int.mul_neg_of_neg_of_pos h hc'
  simp only [z1, z2]
  congr 2
  by_cases h : m + n = 0
  · rw [if_pos h, h]
    have : ¬ (m < 0 ∧ n < 0) := by omega
    have h2 : (decide (m < 0) && decide (n < 0)) = false := by rw [← Bool.decide_and]; exact decide_eq_false this
    rw [h2]; rfl
  · rw [if_neg h]
theorem flip_ofInt {n : Int} (h : n ≠ 0) : flip (floatOfInt .f64 n) = floatOfInt .f64 (-n) := by
  rw [← word_neg (flip_lt (ofInt_lt n)), flip_neg (ofInt_lt n), flip_rung (ofInt_lt n), ofInt_neg, ofInt_rung, ofInt_eq (-n), Int.natAbs_neg]
  congr 1
  by_cases h1 : n < 0
  · rw [decide_eq_true h1, decide_eq_false (by omega)]; rfl
  · rw [decide_eq_false h1, decide_eq_true (by omega)]; rfl
theorem sub_int {m n : Int} (hm : m.natAbs ≤ 2 ^ 53) (hn : n.natAbs ≤ 2 ^ 53) (h0 : n ≠ 0) : double.sub (floatOfInt .f64 m) (floatOfInt .f64 n) = some (floatOfInt .f64 (m - n)) := by
  rw [sub_flip (ofInt_lt _) (nan_ofInt _), flip_ofInt h0, add_int hm (by omega)]
  rfl

theorem cut_down (s : Bool) (n d : Nat) : Toward.down.cut s n d = n / 2 ^ d + (s && n % 2 ^ d != 0).toNat := by
  unfold Toward.cut
  simp only [Nat.one_shiftLeft, div_min]
  congr 3
  rcases Nat.le_total d (n.log2 + 2) with h | h
  · rw [Nat.min_eq_left h]
  · rw [Nat.min_eq_right h]
    have h1 : n < 2 ^ (n.log2 + 1) := Nat.lt_log2_self
    have h2 : 2 ^ (n.log2 + 1) ≤ 2 ^ (n.log2 + 2) := Nat.pow_le_pow_right (by decide) (by omega)
    have h3 : 2 ^ (n.log2 + 2) ≤ 2 ^ d := Nat.pow_le_pow_right (by decide) h
    rw [Nat.mod_eq_of_lt (by omega), Nat.mod_eq_of_lt (by omega)]
theorem val_mant (b : Nat) : val (rung b) = mant b * 2 ^ (rung b / 2 ^ 52 - 1) := by
  have h := mag_shift (r := rung b)
  rw [Nat.shiftLeft_eq] at h
  exact h.symm
/-- the part before the point, and what is behind it -/
theorem parts_U (m p : Nat) : (m <<< (-1074 + (p : Int)).toNat) / 2 ^ (-(-1074 + (p : Int))).toNat = m * 2 ^ p / U ∧ ((m <<< (-1074 + (p : Int)).toNat) % 2 ^ (-(-1074 + (p : Int))).toNat != 0) = (m * 2 ^ p % U != 0) := by
  rw [Nat.shiftLeft_eq]
  obtain ⟨K, hK⟩ : ∃ K, K = 1074 := ⟨_, rfl⟩
  have hK' : (-1074 : Int) = -(K : Int) := by omega
  rw [U_of hK, pw_eq, hK']
  clear hK hK'
  rcases Nat.le_total K p with h | h
  · obtain ⟨c, rfl⟩ : ∃ c, p = c + K := ⟨p - K, by omega⟩
    have h2 := Nat.two_pow_pos K
    rw [show (-(K : Int) + ((c + K : Nat) : Int)).toNat = c by omega, show (-(-(K : Int) + ((c + K : Nat) : Int))).toNat = 0 by omega, Nat.pow_zero, Nat.div_one, Nat.mod_one, Nat.pow_add, ← Nat.mul_assoc, Nat.mul_div_cancel _ h2, Nat.mul_mod_left]
    exact ⟨rfl, rfl⟩
  · rw [show (-(K : Int) + (p : Int)).toNat = 0 by omega, Nat.pow_zero, Nat.mul_one, show (-(-(K : Int) + (p : Int))).toNat = K - p by omega]
    have hp := Nat.two_pow_pos p
    obtain ⟨c, rfl⟩ : ∃ c, K = c + p := ⟨K - p, by omega⟩
    rw [Nat.add_sub_cancel, Nat.pow_add, Nat.mul_div_mul_right _ _ hp, Nat.mul_mod_mul_right]
    refine ⟨rfl, ?_⟩
    have z : m % 2 ^ c * 2 ^ p = 0 ↔ m % 2 ^ c = 0 := by
      rw [Nat.mul_eq_zero]
      constructor
      · rintro (h | h)
        · exact h
        · omega
      · exact .inl
    by_cases h0 : m % 2 ^ c = 0
    · rw [h0, Nat.zero_mul]
    · have h1 : ¬ m % 2 ^ c * 2 ^ p = 0 := fun h => h0 (z.1 h)
      rw [bne_iff_ne.2 h0, bne_iff_ne.2 h1]
theorem flr_num {b : Nat} (hb : b < 2 ^ 64) (fin : rung b < 2047 * 2 ^ 52) :
    double.write ((double.read b).integral .down) = double.nearest (neg b) (val (rung b) / U + (neg b && val (rung b) % U != 0).toNat) 0 := by
  rw [read_num hb fin]
  unfold Datum.integral
  show double.nearest _ _ _ = _
  rw [cut_down, val_mant]
  have h := parts_U (mant b) (rung b / 2 ^ 52 - 1)
  unfold mant at h ⊢
  rw [h.1, h.2]
theorem whM_val {b : Nat} (hb : b < 2 ^ 64) (fin : rung b < 2047 * 2 ^ 52) : whM b = val (rung b) / U := by
  have h1 := toInt_num hb fin
  rw [read_num hb fin] at h1
  unfold Datum.toInt Datum.integral at h1
  simp only [cut_zero, Option.some.injEq] at h1
  have h := (parts_U (mant b) (rung b / 2 ^ 52 - 1)).1
  rw [val_mant, ← h]
  unfold mant
  unfold signed at h1
  simp only [Nat.shiftLeft_zero] at h1
  split at h1 <;> omega
theorem int_floor (V u : Nat) (hu : 0 < u) : (-(V : Int)) / (u : Int) = -((V / u + (V % u != 0).toNat : Nat) : Int) := by
  have h := Nat.div_add_mod V u
  have hr := Nat.mod_lt V hu
  generalize V / u = q at *
  generalize V % u = r at *
  subst h
  by_cases h0 : r = 0
  · subst h0
    rw [show ((0 : Nat) != 0).toNat = 0 from rfl, Nat.add_zero, Nat.add_zero, Int.natCast_mul, ← Int.mul_neg]
    exact Int.mul_ediv_cancel_left _ (by omega)
  · rw [bne_iff_ne.2 h0]
    show _ = -((q + 1 : Nat) : Int)
    have e : (-((u * q + r : Nat) : Int)) = (u - r) + u * (-((q + 1 : Nat) : Int)) := by
      rw [Int.natCast_add, Int.natCast_mul, Int.natCast_add, Int.mul_neg, Int.mul_add]; omega
    rw [e, Int.add_mul_ediv_left _ _ (by omega), Int.ediv_eq_zero_of_lt (by omega) (by omega), Int.zero_add]
/-- A FLOOR is the whole number below, as a float. -/
theorem flr_int {b : Nat} (hb : b < 2 ^ 64) (fin : rung b < 2047 * 2 ^ 52) (h0 : rung b ≠ 0) :
    double.write ((double.read b).integral .down) = floatOfInt .f64 (sval b / U) := by
  rw [flr_num hb fin, sval_neg]
  have hV : 0 < val (rung b) := by have := val_mono (Nat.pos_of_ne_zero h0); rw [val_zero] at this; exact this
  have hU := U_pos
  show _ = double.nearest _ _ _
  cases neg b
  · simp only [Bool.false_and, Bool.toNat_false, Nat.add_zero, Bool.false_eq_true, if_false]
    rw [← Int.natCast_ediv]
    generalize val (rung b) / U = q
    rw [Int.natAbs_natCast, decide_eq_false (by omega)]
  · simp only [Bool.true_and, if_true]
    rw [int_floor _ _ hU]
    have hN : 0 < val (rung b) / U + (val (rung b) % U != 0).toNat := by
      by_cases h : val (rung b) % U = 0
      · exact Nat.lt_of_lt_of_le (Nat.div_pos (Nat.le_of_dvd hV (Nat.dvd_of_mod_eq_zero h)) hU) (Nat.le_add_right _ _)
      · rw [bne_iff_ne.2 h]
        exact Nat.succ_pos _
    generalize val (rung b) / U + (val (rung b) % U != 0).toNat = N at *
    rw [Int.natAbs_neg, Int.natAbs_natCast, decide_eq_true (by omega)]
end Go.Proofs.Ytbckfoldjlgabaa.Fl
