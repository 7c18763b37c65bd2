/- WALKS of fbit.Scale: normalize, Copysign, Inf, ldexp. -/
import Derived.Test.YtbckfoldjlgabaaLaw01A
import Derived.Test.YtbckfoldjlgabaaFloat6
namespace Go.Proofs.Ytbckfoldjlgabaa
open Go.RowKit
open Fl (nan key canon ex fr)

/-- the float with its full 53 bits, and how far it was moved -/
def nrm (b : Nat) : Nat := if Fl.rung b < 2 ^ 52 then Ieee.double.word (Fl.neg b) ((Fl.rung b).log2 * 2 ^ 52 + Fl.nM b) else b
def nsh (b : Nat) : Int := if Fl.rung b < 2 ^ 52 then -52 else 0
theorem nrm_facts {b : Nat} (hb : b < 2 ^ 64) (h0 : Fl.rung b ≠ 0) (hi : Fl.rung b < 2047 * 2 ^ 52) :
    nrm b < 2 ^ 64 ∧ Fl.neg (nrm b) = Fl.neg b ∧ (ex (nrm b) : Int) + nsh b = Fl.nE b ∧ 1 ≤ ex (nrm b) ∧ ex (nrm b) ≤ 2046 ∧ 2 ^ 52 + fr (nrm b) = Fl.nM b := by
  have hM := Fl.nM_bounds h0
  unfold nrm nsh
  by_cases h1 : Fl.rung b < 2 ^ 52
  · have hl : (Fl.rung b).log2 < 52 := (Nat.log2_lt h0).2 h1
    have hE : Fl.nE b = 1 - ((52 - (Fl.rung b).log2 : Nat) : Int) := by unfold Fl.nE; rw [if_pos h1]
    rw [if_pos h1, if_pos h1]
    have hr : (Fl.rung b).log2 * 2 ^ 52 + Fl.nM b < 2 ^ 63 := by omega
    have h2 := Fl.rung_word (s := Fl.neg b) hr
    have h3 := Fl.neg_word (s := Fl.neg b) hr
    have h4 := Fl.word_lt' (s := Fl.neg b) hr
    generalize Ieee.double.word (Fl.neg b) ((Fl.rung b).log2 * 2 ^ 52 + Fl.nM b) = c at *
    have h5 := Fl.rung_ex (b := c)
    have h6 := Fl.rung_fr (b := c)
    refine ⟨h4, h3, ?_⟩
    omega
  · have hE : Fl.nE b = (Fl.rung b / 2 ^ 52 : Nat) := by unfold Fl.nE; rw [if_neg h1]
    have hMb : Fl.nM b = 2 ^ 52 + Fl.rung b % 2 ^ 52 := by unfold Fl.nM; rw [if_neg h1]
    rw [if_neg h1, if_neg h1]
    have h5 := Fl.rung_ex (b := b)
    have h6 := Fl.rung_fr (b := b)
    refine ⟨hb, rfl, ?_⟩
    omega
theorem product_num (s : Bool) (m n : Nat) (i j : Int) : (Ieee.Datum.number s m i).product (.number false n j) = some (.number s (m * n) (i + j)) := by
  show some (Ieee.Datum.number (s ^^ false) (m * n) (i + j)) = _
  rw [Bool.xor_false]
theorem product_num' (s : Bool) (m n : Nat) (i j : Int) : (Ieee.Datum.number false m i).product (.number s n j) = some (.number s (m * n) (i + j)) := by
  show some (Ieee.Datum.number (false ^^ s) (m * n) (i + j)) = _
  rw [Bool.false_xor]
theorem read_fin {b : Nat} (hb : b < 2 ^ 64) (hi : Fl.rung b < 2047 * 2 ^ 52) : Ieee.double.read b = .number (Fl.neg b) (Fl.mant b) (Fl.plc b) := Fl.read_num hb hi
theorem read_pow52 : Ieee.double.read 4841369599423283200 = .number false (2 ^ 52) 0 := by decide
theorem read_one : Ieee.double.read 4607182418800017408 = .number false (2 ^ 52) (-52) := by decide
theorem read_back53 : Ieee.double.read 4368491638549381120 = .number false (2 ^ 52) (-105) := by decide
/-- a small number times 2 to the 52 -/
theorem mul_pow52 {b : Nat} (hb : b < 2 ^ 64) (h0 : Fl.rung b ≠ 0) (h1 : Fl.rung b < 2 ^ 52) : Ieee.double.mul b 4841369599423283200 = some (nrm b) := by
  unfold Ieee.Format.mul
  rw [read_fin hb (by omega), read_pow52, product_num]
  show some (Ieee.double.nearest _ _ _) = _
  rw [Fl.nearest_shift, Int.add_zero]
  have h := Fl.nearest_nM (Fl.neg b) b ((52 : Nat) : Int) h0
  rw [h]
  unfold nrm
  rw [if_pos h1]
  congr 2
  have hl : (Fl.rung b).log2 < 52 := (Nat.log2_lt h0).2 h1
  have hE : Fl.nE b = 1 - ((52 - (Fl.rung b).log2 : Nat) : Int) := by unfold Fl.nE; rw [if_pos h1]
  unfold Fl.scr
  rw [if_neg (by omega), if_pos (by omega)]
  congr 2
  omega
/-- 1 times a number -/
theorem mul_one' {c : Nat} (hc : c < 2 ^ 64) (h0 : Fl.rung c ≠ 0) (hi : Fl.rung c < 2047 * 2 ^ 52) : Ieee.double.mul 4607182418800017408 c = some c := by
  unfold Ieee.Format.mul
  rw [read_one, read_fin hc hi, product_num']
  show some (Ieee.double.nearest _ _ _) = _
  rw [Nat.mul_comm, Fl.nearest_shift, show -52 + Fl.plc c + ((52 : Nat) : Int) = Fl.plc c + 0 by omega, Fl.nearest_nM _ _ _ h0, Int.add_zero, Fl.scr_self h0 hi, Fl.word_neg hc]
/-- 2 to the -53 times a number -/
theorem mul_back53 {c : Nat} (hc : c < 2 ^ 64) (h0 : Fl.rung c ≠ 0) (hi : Fl.rung c < 2047 * 2 ^ 52) : Ieee.double.mul 4368491638549381120 c = some (Ieee.double.word (Fl.neg c) (Fl.scr (Fl.nM c) (Fl.nE c - 53))) := by
  unfold Ieee.Format.mul
  rw [read_back53, read_fin hc hi, product_num']
  show some (Ieee.double.nearest _ _ _) = _
  rw [Nat.mul_comm, Fl.nearest_shift, show -105 + Fl.plc c + ((52 : Nat) : Int) = Fl.plc c + (-53) by omega, Fl.nearest_nM _ _ _ h0]
  rfl
theorem ab_rung (b : Nat) : ab b = Fl.rung b := rfl
set_option maxHeartbeats 400000 in
theorem normalize_any (b : Nat) (w : World) (hb : b < 2 ^ 64) (h0 : Fl.rung b ≠ 0) (hi : Fl.rung b < 2047 * 2 ^ 52) :
    Calls Try.prog 106 #[.float .f64 b] w fun e w' => e = .returned (.tuple #[.float .f64 (nrm b), .int .i64 (nsh b)]) ∧ w = w' := by
  have hn : nan b = false := by rw [Fl.nan_false]; unfold Fl.rung at hi; omega
  have h1 := lss_small 64 hn
  have C1 := Lib.hid (fun w => abs_any b w hb)
  by_cases h : ab b < 4503599627370496
  · rw [decide_eq_true h] at h1
    have hm := mul_pow52 hb h0 (by rw [ab_rung] at h; exact h)
    have h2 := fun w => run_float_arith (P := Try.prog) w .mul 64 .f64 b 4841369599423283200 (nrm b) hm
    rw [show nsh b = -52 by unfold nsh; rw [if_pos (by rw [ab_rung] at h; exact h)]]
    clear h hn hb h0 hi hm
    generalize nrm b = c at *
    go_enter Try.func106, Try.ntmps106
    go_wp2_with fail
    refine (C1.out _).mono ?_
    rintro e w' ⟨rfl, rfl⟩
    go_wp2_with fail
    go_ret2
    exact ⟨rfl, rfl⟩
  · rw [decide_eq_false h] at h1
    rw [show nsh b = 0 by unfold nsh; rw [if_neg (by rw [ab_rung] at h; exact h)], show nrm b = b by unfold nrm; rw [if_neg (by rw [ab_rung] at h; exact h)]]
    clear h hn hb h0 hi
    go_enter Try.func106, Try.ntmps106
    go_wp2_with fail
    refine (C1.out _).mono ?_
    rintro e w' ⟨rfl, rfl⟩
    go_wp2_with fail
    go_ret2
    exact ⟨rfl, rfl⟩
theorem mod_split (i a b c d : Nat) (hb : b < 2 ^ i) (hd : d < 2 ^ i) : (2 ^ i * a + b) &&& (2 ^ i * c + d) = 2 ^ i * (a &&& c) + (b &&& d) := by
  refine Nat.eq_of_testBit_eq fun j => ?_
  rw [Nat.testBit_and, Nat.testBit_two_pow_mul_add _ hb, Nat.testBit_two_pow_mul_add _ hd, Nat.testBit_two_pow_mul_add _ (Nat.lt_of_le_of_lt Nat.and_le_left hb)]
  split <;> rw [Nat.testBit_and]
theorem or_split (i a b c d : Nat) (hb : b < 2 ^ i) (hd : d < 2 ^ i) : (2 ^ i * a + b) ||| (2 ^ i * c + d) = 2 ^ i * (a ||| c) + (b ||| d) := by
  refine Nat.eq_of_testBit_eq fun j => ?_
  rw [Nat.testBit_or, Nat.testBit_two_pow_mul_add _ hb, Nat.testBit_two_pow_mul_add _ hd, Nat.testBit_two_pow_mul_add _ (Nat.or_lt_two_pow hb hd)]
  split <;> rw [Nat.testBit_or]
/-- the sign's bit -/
theorem and_sign {b : Nat} (hb : b < 2 ^ 64) : bits .and .u64 (b : Int) 9223372036854775808 = ((if 2 ^ 63 ≤ b then 2 ^ 63 else 0 : Nat) : Int) := by
  refine (u64_and_nat b 9223372036854775808 hb (by decide)).trans ?_
  have h := mod_split 63 (b / 2 ^ 63) (b % 2 ^ 63) 1 0 (Nat.mod_lt _ (by decide)) (by decide)
  rw [Nat.div_add_mod, Nat.and_zero, Nat.add_zero, Nat.add_zero, Nat.mul_one] at h
  refine congrArg _ (h.trans ?_)
  by_cases h1 : 2 ^ 63 ≤ b
  · rw [if_pos h1, show b / 2 ^ 63 = 1 by omega]; rfl
  · rw [if_neg h1, show b / 2 ^ 63 = 0 by omega]; rfl
/-- the exponent taken out -/
theorem andNot_exp {b : Nat} (hb : b < 2 ^ 64) : bits .andNot .u64 (b : Int) 9218868437227405312 = (((if 2 ^ 63 ≤ b then 2 ^ 63 else 0) + fr b : Nat) : Int) := by
  refine (u64_andNot_nat b 9218868437227405312 hb (by decide)).trans ?_
  have h := mod_split 52 (b / 2 ^ 52) (b % 2 ^ 52) 2048 (2 ^ 52 - 1) (Nat.mod_lt _ (by decide)) (by decide)
  have h' := mod_split 11 (b / 2 ^ 52 / 2 ^ 11) (b / 2 ^ 52 % 2 ^ 11) 1 0 (Nat.mod_lt _ (by decide)) (by decide)
  rw [Nat.div_add_mod, Nat.and_zero, Nat.add_zero, Nat.add_zero, Nat.mul_one] at h'
  rw [Nat.div_add_mod, Nat.and_two_pow_sub_one_eq_mod, h', Nat.mod_mod] at h
  refine congrArg _ (h.trans ?_)
  unfold fr
  by_cases h1 : 2 ^ 63 ≤ b
  · rw [if_pos h1, show b / 2 ^ 52 / 2 ^ 11 = 1 by omega]; rfl
  · rw [if_neg h1, show b / 2 ^ 52 / 2 ^ 11 = 0 by omega]; rfl
/-- an exponent put in -/
theorem or_exp {s m e : Nat} (hs : s = 0 ∨ s = 2 ^ 63) (hm : m < 2 ^ 52) (he : e < 2 ^ 11) : bits .or .u64 ((s + m : Nat) : Int) ((e * 2 ^ 52 : Nat) : Int) = ((s + e * 2 ^ 52 + m : Nat) : Int) := by
  refine (u64_or_nat _ _ (by omega) (by omega)).trans ?_
  obtain ⟨c, hc, hc'⟩ : ∃ c, s = 2 ^ 52 * (2 ^ 11 * c) ∧ c ≤ 1 := by
    rcases hs with rfl | rfl
    · exact ⟨0, rfl, by decide⟩
    · exact ⟨1, rfl, by decide⟩
  have h := or_split 52 (2 ^ 11 * c) m e 0 hm (by decide)
  have h' := or_split 11 c 0 0 e (by decide) he
  rw [Nat.or_zero, Nat.zero_or, Nat.add_zero, Nat.mul_zero, Nat.zero_add] at h'
  rw [← hc, h', Nat.or_zero, Nat.add_zero] at h
  refine congrArg _ ((congrArg (fun x => (s + m) ||| x) (Nat.mul_comm e (2 ^ 52))).trans (h.trans ?_))
  omega
set_option maxHeartbeats 400000 in
theorem copysign_zero (b : Nat) (w : World) (hb : b < 2 ^ 64) :
    Calls Try.prog 91 #[.float .f64 0, .float .f64 b] w fun e w' => e = .returned (.float .f64 (Ieee.double.word (Fl.neg b) 0)) ∧ w = w' := by
  have h1 : bits .andNot .u64 0 9223372036854775808 = 0 := by decide +kernel
  have h2 := and_sign hb
  have h3 : bits .or .u64 0 ((if 2 ^ 63 ≤ b then 2 ^ 63 else 0 : Nat) : Int) = ((if 2 ^ 63 ≤ b then 2 ^ 63 else 0 : Nat) : Int) := by
    refine (u64_or_nat 0 _ (by decide) (by split <;> decide)).trans ?_
    rw [Nat.zero_or]
  have h4 : Ieee.double.word (Fl.neg b) 0 = (if 2 ^ 63 ≤ b then 2 ^ 63 else 0 : Nat) := by
    unfold Ieee.Format.word Fl.neg
    simp only [Fl.sw, decide_eq_true_eq, Nat.add_zero]
  rw [h4]
  clear h4 hb
  generalize (if 2 ^ 63 ≤ b then 2 ^ 63 else 0 : Nat) = c at *
  go_enter Try.func91, Try.ntmps91
  go_wp2
  go_ret
  exact ⟨by simp, rfl⟩
set_option maxHeartbeats 400000 in
theorem inf_any (s : Bool) (w : World) :
    Calls Try.prog 107 #[.int .i64 (if s then -1 else 1)] w fun e w' => e = .returned (.float .f64 (Ieee.double.word s (2047 * 2 ^ 52))) ∧ w = w' := by
  cases s
  · go_enter Try.func107, Try.ntmps107
    go_wp2
    go_ret
    exact ⟨rfl, rfl⟩
  · go_enter Try.func107, Try.ntmps107
    go_wp2
    go_ret
    exact ⟨rfl, rfl⟩
end Go.Proofs.Ytbckfoldjlgabaa
