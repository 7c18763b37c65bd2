/- PLAIN: floors and whole parts against each other; doubling; scaling there and back. -/
import Derived.Test.YtbckfoldjlgabaaFloat5
open Ieee
namespace Go.Proofs.Ytbckfoldjlgabaa.Fl

theorem fin_of_ex {b : Nat} (h : ex b < 2047) : rung b < 2047 * 2 ^ 52 := by unfold ex at h; unfold rung; omega
theorem key_sval {a b : Nat} (ha : a < 2 ^ 64) (hb : b < 2 ^ 64) : key a < key b ↔ sval a < sval b := (sval_lt ha hb).symm
theorem val_bound {b : Nat} (h : ex b < 1075) : val (rung b) < 2 ^ 53 * U := by
  obtain ⟨r, hr⟩ : ∃ r, r = 1076 * 2 ^ 52 := ⟨_, rfl⟩
  rw [← val_top hr rfl]
  refine val_mono ?_
  unfold ex at h; unfold rung; omega
theorem quot_bound {b : Nat} (h : ex b < 1075) : val (rung b) / U < 2 ^ 53 := Nat.div_lt_of_lt_mul (by rw [Nat.mul_comm]; exact val_bound h)
theorem whole_fin {b : Nat} (hb : b < 2 ^ 64) (h : ex b < 1086) : whole b = if neg b then -((val (rung b) / U : Nat) : Int) else ((val (rung b) / U : Nat) : Int) := by
  have hn : nan b = false := by rw [nan_false]; unfold ex at h; omega
  unfold whole
  rw [hn, if_neg (by simp), if_neg (by omega), whM_val hb (fin_of_ex (by omega))]
  unfold sg neg
  by_cases h1 : 2 ^ 63 ≤ b <;> simp [h1]
/-- the whole part is the floor, or one above it -/
theorem whole_floor {b : Nat} (hb : b < 2 ^ 64) (he : ex b < 1075) :
    (whole b).natAbs < 2 ^ 53 ∧ ((neg b = true ∧ sval b < whole b * U ∧ (whole b - 1) * U < sval b ∧ whole b - 1 = sval b / U ∧ whole b ≤ 0) ∨ (whole b * U ≤ sval b ∧ (neg b = true → whole b * U = sval b ∧ whole b ≤ 0) ∧ (neg b = false → 0 ≤ whole b) ∧ sval b < (whole b + 1) * U ∧ whole b = sval b / U)) := by
  have hq := quot_bound he
  have hU := U_pos
  rw [whole_fin hb (by omega), sval_neg]
  generalize val (rung b) = V at *
  have hm := Nat.div_add_mod V U
  have hr := Nat.mod_lt V hU
  have hF := int_floor V U hU
  have hG : (V : Int) / (U : Int) = ((V / U : Nat) : Int) := (Int.natCast_ediv _ _).symm
  have e : ((V / U : Nat) : Int) * (U : Int) = ((U * (V / U) : Nat) : Int) := by rw [← Int.natCast_mul, Nat.mul_comm]
  generalize V / U = q at *
  generalize V % U = r at *
  generalize U * q = p at *
  cases neg b
  · simp only [Bool.false_eq_true, if_false]
    rw [hG, Int.add_mul, e]
    exact ⟨by omega, .inr ⟨by omega, (fun h => h.elim), (fun _ => by omega), by omega, rfl⟩⟩
  · simp only [if_true]
    rw [hF, Int.add_mul, Int.sub_mul, Int.neg_mul, e]
    refine ⟨by omega, ?_⟩
    by_cases h0 : r = 0
    · subst h0
      exact .inr ⟨by omega, (fun _ => ⟨by omega, by omega⟩), (fun h => by cases h), by omega, rfl⟩
    · rw [bne_iff_ne.2 h0]
      refine .inl ⟨trivial, by omega, by omega, ?_, by omega⟩
      show _ = -((q + 1 : Nat) : Int)
      omega
/-- far out a float is whole -/
theorem flr_far {b : Nat} (hb : b < 2 ^ 64) (hn : nan b = false) (he : 1075 ≤ ex b) : double.write ((double.read b).integral .down) = b := by
  rw [nan_false] at hn
  rcases Nat.lt_or_ge (rung b) (2047 * 2 ^ 52) with fin | h1
  · have h0 : rung b ≠ 0 := by unfold ex at he; unfold rung; omega
    have hp : 1074 ≤ rung b / 2 ^ 52 - 1 := by rw [rung_ex]; omega
    rw [flr_num hb fin, val_mant]
    obtain ⟨K, hK⟩ : ∃ K, K = 1074 := ⟨_, rfl⟩
    obtain ⟨c, hc⟩ : ∃ c, rung b / 2 ^ 52 - 1 = c + K := ⟨rung b / 2 ^ 52 - 1 - K, by omega⟩
    have e : mant b * 2 ^ (c + K) = mant b * 2 ^ c * U := by rw [U_of hK, pw_eq, Nat.pow_add, Nat.mul_assoc]
    rw [hc, e, Nat.mul_div_cancel _ U_pos, Nat.mul_mod_left]
    have h3 : (neg b && (0 : Nat) != 0).toNat = 0 := by cases neg b <;> rfl
    have h4 := nearest_nM (neg b) b 0 h0
    rw [Int.add_zero, Int.add_zero, scr_self h0 fin, word_neg hb] at h4
    rw [h3, Nat.add_zero, nearest_shift, show (0 : Int) + (c : Nat) = plc b by unfold plc; omega]
    exact h4
  · have h2 : rung b = 2047 * 2 ^ 52 := by unfold rung at h1 ⊢; omega
    rw [read_inf hb h2]
    show double.word (neg b) double.infRung = b
    rw [ir, ← h2, word_neg hb]
theorem flr_zero {b : Nat} (hb : b < 2 ^ 64) (h0 : rung b = 0) : double.write ((double.read b).integral .down) = b := by
  rw [flr_num hb (by rw [h0]; decide), h0, val_zero, Nat.zero_div, Nat.zero_mod]
  have h3 : (neg b && (0 : Nat) != 0).toNat = 0 := by cases neg b <;> rfl
  rw [h3, Nat.add_zero]
  show double.word (neg b) 0 = b
  rw [← h0, word_neg hb]

theorem nan_word {s : Bool} {r : Nat} (h : r ≤ 2047 * 2 ^ 52) : nan (double.word s r) = false := by
  rw [nan_false]; have := rung_word (s := s) (show r < 2 ^ 63 by omega); unfold rung at this; omega
theorem canon_num {b : Nat} (h : nan b = false) : canon b = b := by unfold canon; rw [h]; rfl
theorem word_lt' {s : Bool} {r : Nat} (h : r < 2 ^ 63) : double.word s r < 2 ^ 64 := double.word_lt s (by rw [sw]; exact h)
theorem scl_lt {b : Nat} (hb : b < 2 ^ 64) (n : Int) : scl b n < 2 ^ 64 := by
  unfold scl
  split
  · exact canon_lt hb
  · rename_i h
    have hM := nM_bounds (b := b) (by omega)
    have := scr_le hM.2 (nE b + max (-5000) (min 5000 n))
    exact word_lt' (by omega)
theorem scl_canon (b : Nat) (n : Int) : canon (scl b n) = scl b n := by
  unfold scl
  split
  · exact canon_canon b
  · rename_i h
    have hM := nM_bounds (b := b) (by omega)
    have := scr_le hM.2 (nE b + max (-5000) (min 5000 n))
    exact canon_num (nan_word (by omega))
theorem scl_zero {b : Nat} (hb : b < 2 ^ 64) : scl b 0 = canon b := by
  unfold scl
  split
  · rfl
  · rename_i h
    rw [show nE b + max (-5000) (min 5000 0) = nE b by omega, scr_self (by omega) (by omega), word_neg hb, canon_num]
    rw [nan_false]; unfold rung at h; omega
theorem scl_nan {b : Nat} (n : Int) : nan (scl b n) = nan b := by
  unfold scl
  split
  · unfold canon
    split
    · rename_i h; rw [h]; decide
    · rfl
  · rename_i h
    have hM := nM_bounds (b := b) (by omega)
    have := scr_le hM.2 (nE b + max (-5000) (min 5000 n))
    rw [nan_word (by omega), eq_comm, nan_false]; unfold rung at h; omega
theorem scl_flip {b : Nat} (hb : b < 2 ^ 64) (hn : nan b = false) (n : Int) : scl (flip b) n = flip (scl b n) := by
  have e1 := flip_rung hb
  have e2 := flip_neg hb
  have fw : ∀ r, r < 2 ^ 63 → flip (double.word (neg b) r) = double.word (!neg b) r := fun r hr => by
    rw [← word_neg (flip_lt (word_lt' hr)), flip_neg (word_lt' hr), flip_rung (word_lt' hr), neg_word hr, rung_word hr]
  unfold scl
  rw [e1]
  split
  · rw [canon_num hn, canon_num]
    rw [nan_false] at hn ⊢; unfold rung at e1; omega
  · rename_i h
    have hM := nM_bounds (b := b) (by omega)
    have := scr_le hM.2 (nE b + max (-5000) (min 5000 n))
    rw [fw _ (by omega), e2]
    unfold nM nE
    rw [e1]
theorem sum_inf (s : Bool) : (Datum.infinity s).sum (.infinity s) = some (.infinity s) := by cases s <;> rfl
theorem scl_num {y : Nat} (h : 2 ^ 52 ≤ rung y ∧ rung y < 2047 * 2 ^ 52) (n : Int) : scl y n = double.word (neg y) (scr (nM y) (nE y + max (-5000) (min 5000 n))) := by
  unfold scl
  rw [if_neg (by omega)]
/-- x + x -/
theorem add_self {b : Nat} (hb : b < 2 ^ 64) (hn : nan b = false) : ∃ r, double.add b b = some r ∧ canon r = scl b 1 ∧ r < 2 ^ 64 := by
  have hn' := hn
  rw [nan_false] at hn
  rcases Nat.lt_or_ge (rung b) (2047 * 2 ^ 52) with fin | h1
  · refine ⟨_, add_num hb hb fin fin, ?_, word_lt' (rv_lt _)⟩
    rw [canon_num (nan_word (rv_le _))]
    have e : sval b + sval b = 2 * sval b := by omega
    have s0 : sval b = 0 ↔ rung b = 0 := by
      rw [sval_neg]
      have := val_eq_iff (r := rung b) (s := 0)
      rw [val_zero] at this
      cases neg b <;> simp <;> exact this
    unfold scl
    by_cases h0 : rung b = 0
    · have q : sval b + sval b = 0 := by rw [s0.2 h0]; rfl
      rw [if_pos q, q, if_pos (Or.inl h0), canon_num hn', Int.natAbs_zero, rv_small (Nat.two_pow_pos 53), Bool.and_self, ← h0, word_neg hb]
    · have q : ¬ sval b + sval b = 0 := by rw [e]; intro h; exact h0 (s0.1 (by omega))
      have q2 : ¬ (rung b = 0 ∨ 2047 * 2 ^ 52 ≤ rung b) := by omega
      rw [if_neg q, if_neg q2]
      have hneg : decide (sval b + sval b < 0) = neg b := by
        rw [sval_neg]
        have hV : 0 < val (rung b) := by have := val_mono (Nat.pos_of_ne_zero h0); rw [val_zero] at this; exact this
        cases neg b
        · simp only [Bool.false_eq_true, if_false]; exact decide_eq_false (by omega)
        · simp only [if_true]; exact decide_eq_true (by omega)
      rw [hneg, show nE b + max (-5000) (min 5000 1) = nE b + 1 by omega, ← nearest_nM (neg b) b 1 h0]
      have hab : (sval b + sval b).natAbs = mant b * 2 ^ 1 * 2 ^ (rung b / 2 ^ 52 - 1) := by
        rw [Nat.pow_one, Nat.mul_right_comm, ← val_mant, sval_neg]
        cases neg b
        · simp only [Bool.false_eq_true, if_false]; omega
        · simp only [if_true]; omega
      rw [hab, ← rg_rv, ← nearest_rg, nearest_shift]
      have e2 : ((rung b / 2 ^ 52 - 1 : Nat) : Int) - 1074 + ((1 : Nat) : Int) = plc b + 1 := by unfold plc; omega
      rw [e2]
  · have h2 : rung b = 2047 * 2 ^ 52 := by unfold rung at h1 ⊢; omega
    have e : double.add b b = some b := by
      unfold Format.add
      rw [read_inf hb h2]
      rw [sum_inf]
      show some (double.word (neg b) double.infRung) = some b
      rw [ir, ← h2, word_neg hb]
    refine ⟨b, e, ?_, hb⟩
    unfold scl
    rw [if_pos (.inr h1)]
theorem cls3 (b : Nat) : cls b = 3 ↔ (2 ^ 52 ≤ rung b ∧ rung b < 2047 * 2 ^ 52) := by
  unfold cls nan rung
  simp only [decide_eq_true_eq]
  repeat' split
  all_goals omega
/-- there and back -/
theorem scl_back {b : Nat} (hb : b < 2 ^ 64) (k : Int) (h1 : cls b = 3) (h2 : cls (scl b k) = 3) (h3 : cls (scl (scl b k) (-1)) = 3) : scl (scl b k) (-k) = b := by
  rw [cls3] at h1 h2 h3
  have hM := nM_bounds (b := b) (by omega)
  have e1 := scl_num h1 k
  have e2 := scr_le hM.2 (nE b + max (-5000) (min 5000 k))
  have e3 : rung (scl b k) = scr (nM b) (nE b + max (-5000) (min 5000 k)) := by rw [e1, rung_word (by omega)]
  have e4 : neg (scl b k) = neg b := by rw [e1, neg_word (by omega)]
  have hE : nE b = (rung b / 2 ^ 52 : Nat) := by unfold nE; rw [if_neg (by omega)]
  have hMb : nM b = 2 ^ 52 + rung b % 2 ^ 52 := by unfold nM; rw [if_neg (by omega)]
  have hself := scr_self (b := b) (by omega) h1.2
  have hk : nE b + max (-5000) (min 5000 k) + max (-5000) (min 5000 (-k)) = nE b := by omega
  have e5 := scl_num h2 (-k)
  have e6 := scl_num h2 (-1)
  rw [e5, e4]
  clear e1 e5
  generalize scl b k = y at *
  generalize nE b + max (-5000) (min 5000 k) = e at *
  have yE : nE y = (rung y / 2 ^ 52 : Nat) := by unfold nE; rw [if_neg (by omega)]
  have yM : nM y = 2 ^ 52 + rung y % 2 ^ 52 := by unfold nM; rw [if_neg (by omega)]
  have hs : scr (nM b) e = if 2047 ≤ e then 2047 * 2 ^ 52 else if 1 ≤ e then (e - 1).toNat * 2 ^ 52 + nM b else rne (nM b) (1 - e).toNat := rfl
  by_cases c1 : 2047 ≤ e
  · rw [if_pos c1] at hs; omega
  by_cases c2 : 1 ≤ e
  · rw [if_neg c1, if_pos c2] at hs
    have f1 : nM y = nM b := by omega
    have f2 : nE y = e := by omega
    rw [f1, f2, hk, hself, word_neg hb]
  · rw [if_neg c1, if_neg c2] at hs
    have h5 : rne (nM b) (1 - e).toNat ≤ 2 ^ 52 := rne_bound (Nat.lt_of_lt_of_le hM.2 (Nat.pow_le_pow_right (by decide) (by omega)))
    have f0 : rung y = 2 ^ 52 := by omega
    rw [yM, yE, f0] at e6
    have f3 : rung (scl y (-1)) = 2 ^ 51 := by
      rw [e6]
      rw [show scr (2 ^ 52 + 2 ^ 52 % 2 ^ 52) (((2 ^ 52 / 2 ^ 52 : Nat) : Int) + max (-5000) (min 5000 (-1))) = 2 ^ 51 by decide +kernel]
      exact rung_word (by decide)
    omega
end Go.Proofs.Ytbckfoldjlgabaa.Fl
