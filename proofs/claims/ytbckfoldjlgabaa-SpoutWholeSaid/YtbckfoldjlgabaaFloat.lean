import Derived.Laws.Cover2
import Derived.Laws.FloatBits
namespace Go.Proofs.Ytbckfoldjlgabaa.Fl
open Ieee

/-- exponent field and the magnitude in units of the least place -/
def val (r : Nat) : Nat := if r < 2 ^ 52 then r else (2 ^ 52 + r % 2 ^ 52) * 2 ^ (r / 2 ^ 52 - 1)
def neg (b : Nat) : Bool := decide (2 ^ 63 ≤ b)
def rung (b : Nat) : Nat := b % 2 ^ 63
def sval (b : Nat) : Int := if 2 ^ 63 ≤ b then -(val (rung b) : Int) else val (rung b)
def nan (b : Nat) : Bool := decide (2047 * 2 ^ 52 < b % 2 ^ 63)
def key (b : Nat) : Int := if 2 ^ 63 ≤ b then -((b : Int) - 2 ^ 63) else b

theorem sw : double.signWeight = 2 ^ 63 := by decide
theorem bn : double.binade = 2 ^ 52 := by decide
theorem ir : double.infRung = 2047 * 2 ^ 52 := by decide
theorem lp : double.leastPlace = -1074 := by decide

theorem val_mono {r s : Nat} (h : r < s) : val r < val s := by
  have h2 : ∀ n, 0 < 2 ^ n := fun n => Nat.two_pow_pos n
  unfold val
  by_cases h1 : r < 2 ^ 52
  · rw [if_pos h1]
    by_cases h3 : s < 2 ^ 52
    · rw [if_pos h3]; exact h
    · rw [if_neg h3]
      calc r < 2 ^ 52 := h1
        _ ≤ (2 ^ 52 + s % 2 ^ 52) * 1 := by omega
        _ ≤ _ := Nat.mul_le_mul_left _ (h2 _)
  · rw [if_neg h1, if_neg (by omega)]
    by_cases he : r / 2 ^ 52 = s / 2 ^ 52
    · rw [he]
      refine Nat.mul_lt_mul_of_pos_right ?_ (h2 _)
      omega
    · have hlt : r / 2 ^ 52 < s / 2 ^ 52 := by omega
      obtain ⟨d, hd⟩ : ∃ d, s / 2 ^ 52 - 1 = (r / 2 ^ 52 - 1) + (1 + d) := ⟨s / 2 ^ 52 - 1 - (r / 2 ^ 52 - 1) - 1, by omega⟩
      rw [hd, Nat.pow_add]
      calc (2 ^ 52 + r % 2 ^ 52) * 2 ^ (r / 2 ^ 52 - 1) < 2 ^ 53 * 2 ^ (r / 2 ^ 52 - 1) := Nat.mul_lt_mul_of_pos_right (by omega) (h2 _)
        _ = 2 ^ 52 * (2 ^ (r / 2 ^ 52 - 1) * 2) := by omega
        _ ≤ (2 ^ 52 + s % 2 ^ 52) * (2 ^ (r / 2 ^ 52 - 1) * 2 ^ (1 + d)) := by
          refine Nat.mul_le_mul (by omega) (Nat.mul_le_mul_left _ ?_)
          rw [Nat.pow_add]
          have := h2 d
          omega

theorem val_lt_iff {r s : Nat} : val r < val s ↔ r < s := by
  constructor
  · intro h
    rcases Nat.lt_trichotomy r s with h1 | h1 | h1
    · exact h1
    · subst h1; omega
    · have := val_mono h1; omega
  · exact val_mono

theorem val_eq_iff {r s : Nat} : val r = val s ↔ r = s := by
  constructor
  · intro h
    rcases Nat.lt_trichotomy r s with h1 | h1 | h1
    · have := val_mono h1; omega
    · exact h1
    · have := val_mono h1; omega
  · rintro rfl; rfl

theorem val_zero : val 0 = 0 := by decide

theorem sval_lt {a b : Nat} (ha : a < 2 ^ 64) (hb : b < 2 ^ 64) : sval a < sval b ↔ key a < key b := by
  have e : ∀ {r s : Nat}, ((val r : Int) < val s ↔ r < s) := fun {r s} => by rw [Int.ofNat_lt]; exact val_lt_iff
  have z : ∀ r, (r = 0 ∧ val r = 0) ∨ (0 < r ∧ 0 < val r) := fun r => by
    rcases Nat.eq_zero_or_pos r with h | h
    · exact .inl ⟨h, by rw [h]; exact val_zero⟩
    · have := val_mono h; rw [val_zero] at this; exact .inr ⟨h, this⟩
  unfold sval key rung
  by_cases h1 : 2 ^ 63 ≤ a <;> by_cases h2 : 2 ^ 63 ≤ b <;> simp only [h1, h2, if_true, if_false]
  · have := e (r := b % 2 ^ 63) (s := a % 2 ^ 63); omega
  · have h3 := z (a % 2 ^ 63)
    have h4 := z (b % 2 ^ 63)
    omega
  · have h3 := z (a % 2 ^ 63)
    have h4 := z (b % 2 ^ 63)
    omega
  · have := e (r := a % 2 ^ 63) (s := b % 2 ^ 63); omega

/-- the datum of a word that is a number -/
theorem read_num {b : Nat} (hb : b < 2 ^ 64) (h : rung b < 2047 * 2 ^ 52) :
    double.read b = .number (neg b) (if rung b < 2 ^ 52 then rung b else 2 ^ 52 + rung b % 2 ^ 52) (-1074 + (rung b / 2 ^ 52 - 1 : Nat)) := by
  have hn : (b / 2 ^ 63 % 2 == 1) = neg b := by
    unfold neg
    by_cases h1 : 2 ^ 63 ≤ b
    · have : b / 2 ^ 63 % 2 = 1 := by omega
      simp only [this, h1]; rfl
    · have : b / 2 ^ 63 % 2 = 0 := by omega
      simp only [this, h1]; rfl
  unfold Format.read
  simp only [sw, bn, ir, lp, hn]
  unfold rung at h ⊢
  by_cases h1 : b % 2 ^ 63 < 2 ^ 52
  · rw [if_pos h1, if_pos h1]
    have : b % 2 ^ 63 / 2 ^ 52 - 1 = 0 := by omega
    rw [this]; rfl
  · rw [if_neg h1, if_pos h, if_neg h1]

theorem read_inf {b : Nat} (hb : b < 2 ^ 64) (h : rung b = 2047 * 2 ^ 52) : double.read b = .infinity (neg b) := by
  have hn : (b / 2 ^ 63 % 2 == 1) = neg b := by
    unfold neg
    by_cases h1 : 2 ^ 63 ≤ b
    · have : b / 2 ^ 63 % 2 = 1 := by omega
      simp only [this, h1]; rfl
    · have : b / 2 ^ 63 % 2 = 0 := by omega
      simp only [this, h1]; rfl
  unfold Format.read
  simp only [sw, bn, ir, lp, hn]
  unfold rung at h
  rw [if_neg (by omega), if_neg (by omega), if_pos h]

theorem read_nan {b : Nat} (h : nan b = true) : ∃ s t, double.read b = .nan s t := by
  unfold Format.read
  simp only [sw, bn, ir, lp]
  unfold nan at h
  simp only [decide_eq_true_eq] at h
  rw [if_neg (by omega), if_neg (by omega), if_neg (by omega)]
  exact ⟨_, _, rfl⟩

/-- the magnitude of a number in units of the least place -/
theorem mag_shift {r : Nat} : (if r < 2 ^ 52 then r else 2 ^ 52 + r % 2 ^ 52) <<< (r / 2 ^ 52 - 1) = val r := by
  unfold val
  rw [Nat.shiftLeft_eq]
  by_cases h1 : r < 2 ^ 52
  · have : r / 2 ^ 52 - 1 = 0 := by omega
    rw [if_pos h1, if_pos h1, this]; simp
  · rw [if_neg h1, if_neg h1]


theorem cI_lt {x y : Int} (h : x < y) : compare x y = .lt := by simp [compare, compareOfLessAndEq, h]
theorem cI_eq (x : Int) : compare x x = .eq := by simp [compare, compareOfLessAndEq]
theorem cI_gt {x y : Int} (h : y < x) : compare x y = .gt := by
  have h1 : ¬ x < y := by omega
  have h2 : ¬ x = y := by omega
  simp [compare, compareOfLessAndEq, h1, h2]

/-- shifting both by the same amount keeps the order -/
theorem cmp_scale (x y : Int) (c : Nat) (hc : 0 < c) : compare (x * c) (y * c) = compare x y := by
  have hc' : (0 : Int) < c := by omega
  rcases Int.lt_trichotomy x y with h | h | h
  · have h1 : x * c < y * c := Int.mul_lt_mul_of_pos_right h hc'
    rw [cI_lt h, cI_lt h1]
  · subst h; rw [cI_eq, cI_eq]
  · have h1 : y * c < x * c := Int.mul_lt_mul_of_pos_right h hc'
    rw [cI_gt h, cI_gt h1]

theorem signed_mul (s : Bool) (m u c : Nat) : signed s m u * (2 ^ c : Nat) = signed s m (u + c) := by
  unfold signed
  simp only [Nat.shiftLeft_eq, Nat.pow_add]
  cases s
  · simp only [Bool.false_eq_true, if_false, Int.natCast_mul, Int.mul_assoc]
  · simp only [if_true, Int.natCast_mul, Int.mul_assoc, Int.neg_mul]

theorem signed_sval {b : Nat} : signed (neg b) (if rung b < 2 ^ 52 then rung b else 2 ^ 52 + rung b % 2 ^ 52) (rung b / 2 ^ 52 - 1) = sval b := by
  unfold signed sval neg
  rw [mag_shift]
  by_cases h : 2 ^ 63 ≤ b <;> simp [h]

theorem cmp_key {a b : Nat} (ha : a < 2 ^ 64) (hb : b < 2 ^ 64) : compare (sval a) (sval b) = compare (key a) (key b) := by
  have h1 := sval_lt ha hb
  have h2 := sval_lt hb ha
  rcases Int.lt_trichotomy (key a) (key b) with h | h | h
  · rw [cI_lt h, cI_lt (h1.2 h)]
  · have : sval a = sval b := by omega
    rw [this, h, cI_eq, cI_eq]
  · rw [cI_gt h, cI_gt (h2.2 h)]

theorem cmp_base (s t : Bool) (m n p q : Nat) :
    compare (signed s m (-1074 + (p : Int) - min (-1074 + (p : Int)) (-1074 + (q : Int))).toNat) (signed t n (-1074 + (q : Int) - min (-1074 + (p : Int)) (-1074 + (q : Int))).toNat) =
      compare (signed s m p) (signed t n q) := by
  have e1 : p = (-1074 + (p : Int) - min (-1074 + (p : Int)) (-1074 + (q : Int))).toNat + min p q := by omega
  have e2 : q = (-1074 + (q : Int) - min (-1074 + (p : Int)) (-1074 + (q : Int))).toNat + min p q := by omega
  generalize (-1074 + (p : Int) - min (-1074 + (p : Int)) (-1074 + (q : Int))).toNat = u at *
  generalize (-1074 + (q : Int) - min (-1074 + (p : Int)) (-1074 + (q : Int))).toNat = v at *
  generalize min p q = c at *
  subst e1 e2
  rw [← signed_mul, ← signed_mul, cmp_scale _ _ _ (Nat.two_pow_pos _)]

theorem neg_rung {b : Nat} (hb : b < 2 ^ 64) : key b = if neg b then -(rung b : Int) else rung b := by
  unfold key neg rung
  by_cases h : 2 ^ 63 ≤ b
  · simp only [h, if_true, decide_true]; omega
  · simp only [h, if_false, decide_false, Bool.false_eq_true]; omega

/-- HOW TWO WORDS STAND: by their keys; a NaN stands nowhere. -/
theorem order_key {a b : Nat} (ha : a < 2 ^ 64) (hb : b < 2 ^ 64) (na : nan a = false) (nb : nan b = false) :
    double.order a b = some (compare (key a) (key b)) := by
  unfold nan at na nb
  simp only [decide_eq_false_iff_not, Nat.not_lt] at na nb
  unfold Format.order
  rcases Nat.lt_or_eq_of_le na with ha1 | ha1 <;> rcases Nat.lt_or_eq_of_le nb with hb1 | hb1
  · rw [read_num ha ha1, read_num hb hb1, ← cmp_key ha hb]
    unfold Datum.order
    simp only [Option.some.injEq]
    rw [← signed_sval, ← signed_sval]
    exact cmp_base _ _ _ _ _ _
  · rw [read_num ha ha1, read_inf hb hb1]
    unfold Datum.order
    simp only [Option.some.injEq]
    rw [neg_rung ha, neg_rung hb]
    unfold rung
    cases neg a <;> cases neg b <;> simp only [Bool.false_eq_true, if_false, if_true] <;> symm <;> (first | (refine (cI_lt ?_).trans rfl; omega) | (refine (cI_gt ?_).trans rfl; omega))
  · rw [read_inf ha ha1, read_num hb hb1]
    unfold Datum.order
    simp only [Option.some.injEq]
    rw [neg_rung ha, neg_rung hb]
    unfold rung
    cases neg a <;> cases neg b <;> simp only [Bool.false_eq_true, if_false, if_true] <;> symm <;> (first | (refine (cI_lt ?_).trans rfl; omega) | (refine (cI_gt ?_).trans rfl; omega))
  · rw [read_inf ha ha1, read_inf hb hb1]
    unfold Datum.order
    simp only [Option.some.injEq]
    rw [neg_rung ha, neg_rung hb]
    unfold rung
    rw [ha1, hb1]
    cases neg a <;> cases neg b <;> decide

theorem order_nan_left {a b : Nat} (na : nan a = true) : double.order a b = none := by
  obtain ⟨s, t, h⟩ := read_nan na
  unfold Format.order
  rw [h]; rfl

theorem order_nan_right {a b : Nat} (nb : nan b = true) : double.order a b = none := by
  obtain ⟨s, t, h⟩ := read_nan nb
  unfold Format.order
  rw [h]
  cases double.read a <;> rfl



def rank (b : Nat) : Int := if nan b then 2 ^ 63 - 1 else if 2 ^ 63 ≤ b then -1 - ((b : Int) - 2 ^ 63) else b
def QN : Nat := 0x7ff8000000000001
def canon (b : Nat) : Nat := if nan b then QN else b
/-- -1, 0, 1: the place in the row -/
def ord (a b : Nat) : Int := if rank a < rank b then -1 else if rank b < rank a then 1 else 0
def least (a b : Nat) : Nat := if 0 < ord a b then canon b else canon a
def most (a b : Nat) : Nat := if ord a b < 0 then canon b else canon a
def side (b : Nat) : Int := if 2 ^ 63 ≤ b then 0 else 1
def cmpI (x y : Int) : Int := if x < y then -1 else if y < x then 1 else 0
def fcmp (a b : Nat) : Int := if nan a then (if nan b then 0 else -1) else if nan b then 1 else cmpI (key a) (key b)

theorem nan_iff {b : Nat} : nan b = true ↔ 2047 * 2 ^ 52 < b % 2 ^ 63 := by unfold nan; simp
theorem nan_false {b : Nat} : nan b = false ↔ b % 2 ^ 63 ≤ 2047 * 2 ^ 52 := by unfold nan; simp

theorem ne_self {b : Nat} (hb : b < 2 ^ 64) : (Ieee.double.order b b != some .eq) = nan b := by
  cases h : nan b
  · rw [order_key hb hb h h, cI_eq]; rfl
  · rw [order_nan_left h]; rfl
theorem eq_self {b : Nat} (hb : b < 2 ^ 64) : (Ieee.double.order b b == some .eq) = !nan b := by
  rw [← ne_self hb]; cases h : (Ieee.double.order b b == some .eq) <;> simp [bne, h]
theorem lt_key {a b : Nat} (ha : a < 2 ^ 64) (hb : b < 2 ^ 64) (na : nan a = false) (nb : nan b = false) : (Ieee.double.order a b == some .lt) = decide (key a < key b) := by
  rw [order_key ha hb na nb]
  rcases Int.lt_trichotomy (key a) (key b) with h | h | h
  · rw [cI_lt h]; simp [h]
  · rw [h, cI_eq]; simp
  · rw [cI_gt h]; simp; omega
theorem gt_key {a b : Nat} (ha : a < 2 ^ 64) (hb : b < 2 ^ 64) (na : nan a = false) (nb : nan b = false) : (Ieee.double.order a b == some .gt) = decide (key b < key a) := by
  rw [order_key ha hb na nb]
  rcases Int.lt_trichotomy (key a) (key b) with h | h | h
  · rw [cI_lt h]; simp; omega
  · rw [h, cI_eq]; simp
  · rw [cI_gt h]; simp [h]
theorem eq_key {a b : Nat} (ha : a < 2 ^ 64) (hb : b < 2 ^ 64) (na : nan a = false) (nb : nan b = false) : (Ieee.double.order a b == some .eq) = decide (key a = key b) := by
  rw [order_key ha hb na nb]
  rcases Int.lt_trichotomy (key a) (key b) with h | h | h
  · rw [cI_lt h]; simp; omega
  · rw [h, cI_eq]; simp
  · rw [cI_gt h]; simp; omega

/-- fbit.Order: by the keys and the sides -/
theorem ord_eq {a b : Nat} (ha : a < 2 ^ 64) (hb : b < 2 ^ 64) (na : nan a = false) (nb : nan b = false) :
    ord a b = if cmpI (key a) (key b) = 0 then cmpI (side a) (side b) else cmpI (key a) (key b) := by
  have h1 := nan_false.1 na
  have h2 := nan_false.1 nb
  unfold ord rank cmpI key side
  simp only [na, nb, Bool.false_eq_true, if_false]
  repeat' split
  all_goals first | rfl | omega

theorem ord_nan_nan {a b : Nat} (na : nan a = true) (nb : nan b = true) : ord a b = 0 := by
  unfold ord rank
  simp [na, nb]
theorem ord_nan_left {a b : Nat} (hb : b < 2 ^ 64) (na : nan a = true) (nb : nan b = false) : ord a b = 1 := by
  have h2 := nan_false.1 nb
  unfold ord rank
  simp only [na, nb, if_true, Bool.false_eq_true, if_false]
  repeat' split
  all_goals first | rfl | omega
theorem ord_nan_right {a b : Nat} (ha : a < 2 ^ 64) (na : nan a = false) (nb : nan b = true) : ord a b = -1 := by
  have h2 := nan_false.1 na
  unfold ord rank
  simp only [na, nb, if_true, Bool.false_eq_true, if_false]
  repeat' split
  all_goals first | rfl | omega

theorem canon_lt {b : Nat} (hb : b < 2 ^ 64) : canon b < 2 ^ 64 := by unfold canon; split; decide; exact hb
theorem canon_canon (b : Nat) : canon (canon b) = canon b := by
  unfold canon
  cases h : nan b
  · simp [h]
  · simp only [if_true]; decide
theorem rank_canon (b : Nat) : rank (canon b) = rank b := by
  unfold canon
  split
  · rename_i h
    unfold rank
    rw [if_pos (by decide), if_pos h]
  · rfl
theorem least_lt {a b : Nat} (ha : a < 2 ^ 64) (hb : b < 2 ^ 64) : least a b < 2 ^ 64 := by unfold least; split <;> exact canon_lt (by assumption)
theorem most_lt {a b : Nat} (ha : a < 2 ^ 64) (hb : b < 2 ^ 64) : most a b < 2 ^ 64 := by unfold most; split <;> exact canon_lt (by assumption)
theorem canon_least (a b : Nat) : canon (least a b) = least a b := by unfold least; split <;> exact canon_canon _
theorem canon_most (a b : Nat) : canon (most a b) = most a b := by unfold most; split <;> exact canon_canon _

/-- the row is one: places tell the canonical words -/
theorem rank_inj {a b : Nat} (ha : a < 2 ^ 64) (hb : b < 2 ^ 64) (h : rank a = rank b) : canon a = canon b := by
  unfold rank at h
  unfold canon
  cases na : nan a <;> cases nb : nan b <;> simp only [na, nb, if_true, Bool.false_eq_true, if_false] at h ⊢
  · split at h <;> split at h <;> omega
  · have h2 := nan_false.1 na
    split at h <;> omega
  · have h2 := nan_false.1 nb
    split at h <;> omega

theorem rank_least (a b : Nat) : rank (least a b) = min (rank a) (rank b) := by
  unfold least ord
  repeat' split
  all_goals rw [rank_canon]
  all_goals omega
theorem rank_most (a b : Nat) : rank (most a b) = max (rank a) (rank b) := by
  unfold most ord
  repeat' split
  all_goals rw [rank_canon]
  all_goals omega
theorem least_of_rank {a b c d : Nat} (ha : a < 2 ^ 64) (hb : b < 2 ^ 64) (hc : c < 2 ^ 64) (hd : d < 2 ^ 64) (h : min (rank a) (rank b) = min (rank c) (rank d)) : least a b = least c d := by
  rw [← canon_least a b, ← canon_least c d]
  exact rank_inj (least_lt ha hb) (least_lt hc hd) (by rw [rank_least, rank_least, h])
theorem most_of_rank {a b c d : Nat} (ha : a < 2 ^ 64) (hb : b < 2 ^ 64) (hc : c < 2 ^ 64) (hd : d < 2 ^ 64) (h : max (rank a) (rank b) = max (rank c) (rank d)) : most a b = most c d := by
  rw [← canon_most a b, ← canon_most c d]
  exact rank_inj (most_lt ha hb) (most_lt hc hd) (by rw [rank_most, rank_most, h])


/-- the class of a float -/
def cls (b : Nat) : Int := if nan b then 5 else if b % 2 ^ 63 = 2047 * 2 ^ 52 then 4 else if 2 ^ 52 ≤ b % 2 ^ 63 then 3 else if b % 2 ^ 63 = 0 then 1 else 2
def ex (b : Nat) : Nat := b / 2 ^ 52 % 2048
def fr (b : Nat) : Nat := b % 2 ^ 52
theorem cls_cases (b : Nat) : (cls b = 5 ∧ ex b = 2047 ∧ fr b ≠ 0) ∨ (cls b = 4 ∧ ex b = 2047 ∧ fr b = 0) ∨ (cls b = 3 ∧ ex b ≠ 2047 ∧ ex b ≠ 0) ∨ (cls b = 2 ∧ ex b = 0 ∧ fr b ≠ 0) ∨ (cls b = 1 ∧ ex b = 0 ∧ fr b = 0) := by
  unfold cls ex fr nan
  simp only [decide_eq_true_eq]
  repeat' split
  all_goals omega
theorem cls_nan (b : Nat) : (cls b == 5) = nan b := by
  unfold cls
  cases nan b
  · simp only [Bool.false_eq_true, if_false]; repeat' split
    all_goals rfl
  · rfl
end Go.Proofs.Ytbckfoldjlgabaa.Fl
