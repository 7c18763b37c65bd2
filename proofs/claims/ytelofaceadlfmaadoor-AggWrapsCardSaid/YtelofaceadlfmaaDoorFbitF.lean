/- WALKS of fbit.Scale: ldexp. -/
import Derived.Test.YtelofaceadlfmaaDoorFbitE
namespace Go.Proofs.YtelofaceadlfmaaDoor
open Go.RowKit
open Fl (nan key canon ex fr)

theorem i64_and2047 (n : Int) : bits .and .i64 n 2047 = n % 2048 := by
  have h : (BitVec.ofInt 64 2047).toNat = 2 ^ 11 - 1 := by decide
  have key : (BitVec.ofInt 64 n &&& BitVec.ofInt 64 2047).toNat = (n % ((2 ^ 64 : Nat) : Int)).toNat % 2 ^ 11 := by
    rw [BitVec.toNat_and, BitVec.toNat_ofInt, h, Nat.and_two_pow_sub_one_eq_mod]
  show IntKind.i64.wrap ((BitVec.ofInt 64 n &&& BitVec.ofInt 64 2047).toNat : Nat) = n % 2048
  rw [key, IntKind.wrap_i64]
  omega
theorem eql_zero_nan (t : TypeId) {b : Nat} (hn : nan b = true) : binOp .eql t (.float .f64 b) (.float .f64 0) = pure (.bool false) := by
  rw [binOp_float_cmp_eql]; show pure (Value.bool (Ieee.double.order b 0 == some .eq)) = _; rw [Fl.order_nan_left hn]; rfl
theorem lss_zero (t : TypeId) {b : Nat} (hb : b < 2 ^ 64) (h0 : Fl.rung b ≠ 0) (hn : nan b = false) : binOp .lss t (.float .f64 b) (.float .f64 0) = pure (.bool (Fl.neg b)) := by
  rw [lss_num t hb (by decide) hn (by decide), show key 0 = 0 by decide]
  have e : decide (key b < 0) = Fl.neg b := by
    unfold Fl.neg
    refine decide_eq_decide.2 ?_
    unfold Fl.rung at h0
    unfold Fl.key
    split <;> omega
  rw [e]
theorem scr_under {M : Nat} (h : M < 2 ^ 53) {e : Int} (he : e < -52) : Fl.scr M e = 0 := by
  unfold Fl.scr
  rw [if_neg (by omega), if_neg (by omega)]
  obtain ⟨d, hd, hd'⟩ : ∃ d, (1 - e).toNat = d ∧ 54 ≤ d := ⟨_, rfl, by omega⟩
  rw [hd]
  have h2 : 2 ^ 54 ≤ 2 ^ d := Nat.pow_le_pow_right (by decide) hd'
  unfold Fl.rne
  rw [Nat.div_eq_of_lt (by omega), Nat.mod_eq_of_lt (by omega), if_neg (by omega)]
def ldx (b : Nat) (n : Int) : Nat := if Fl.rung b = 0 ∨ 2047 * 2 ^ 52 ≤ Fl.rung b then b else Ieee.double.word (Fl.neg b) (Fl.scr (Fl.nM b) (Fl.nE b + n))
theorem ldx_canon (b : Nat) (n : Int) : canon (ldx b (max (-5000) (min 5000 n))) = Fl.scl b n := by
  unfold ldx
  have h := Fl.scl_canon b n
  unfold Fl.scl at h ⊢
  split
  · rfl
  · rename_i h0
    rw [if_neg h0] at h
    exact h
theorem ldx_lt {b : Nat} (hb : b < 2 ^ 64) (n : Int) : ldx b n < 2 ^ 64 := by
  unfold ldx
  split
  · exact hb
  · rename_i h
    have hM := Fl.nM_bounds (b := b) (by omega)
    have := Fl.scr_le hM.2 (Fl.nE b + n)
    exact Fl.word_lt' (by omega)
end Go.Proofs.YtelofaceadlfmaaDoor
