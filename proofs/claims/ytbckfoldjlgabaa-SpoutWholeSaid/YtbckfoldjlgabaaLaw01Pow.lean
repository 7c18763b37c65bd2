/- WALK of FbitPowers. -/
import Derived.Test.YtbckfoldjlgabaaFloat7
namespace Go.Proofs.Ytbckfoldjlgabaa
open Go.RowKit
open Fl (nan key canon)
theorem cut_nan (a r : Nat) (ha : a < 2) (hr : r < 2 ^ 52 - 1) : 2047 * 2 ^ 52 < (a * 2 ^ 63 + 9218868437227405312 + 1 + r) % 2 ^ 63 ∧ a * 2 ^ 63 + 9218868437227405312 + 1 + r < 2 ^ 64 := by
  have h : a = 0 ∨ a = 1 := by omega
  rcases h with rfl | rfl <;> omega
theorem unary_neg {b : Nat} (hb : b < 2 ^ 64) : Op.unary .neg (.float .f64 b) = pure (.float .f64 (Fl.flip b)) := by
  show pure (Value.float .f64 (Op.negFloat .f64 b)) = _
  rw [Fl.flip_xor hb]
theorem run_arith_nan (op : BinOp) (t : TypeId) {x y : Nat} (hop : op = .add ∨ op = .sub) (h : floatBits op .f64 x y = none) (w : World) : ∃ v, (binOp op t (.float .f64 x) (.float .f64 y)).run Try.prog w = .ok (.float .f64 v) w.drew ∧ nan v = true ∧ v < 2 ^ 64 := by
  rcases hop with rfl | rfl
  all_goals
    unfold floatBits at h
    dsimp only at h
    simp only [binOp, Op.floatArith, h]
    simp
    refine ⟨_, rfl, ?_, ?_⟩
  all_goals
    first
      | rw [Fl.nan_iff]
      | skip
    simp only [Question.cut]
    first
      | exact (cut_nan _ _ (Nat.mod_lt _ (by decide)) (Nat.mod_lt _ (by decide))).1
      | exact (cut_nan _ _ (Nat.mod_lt _ (by decide)) (Nat.mod_lt _ (by decide))).2
theorem add_nan {b : Nat} (h : nan b = true) : floatBits .add .f64 b b = none := by
  obtain ⟨s, t, hd⟩ := Fl.read_nan h
  show ((Ieee.double.read b).sum (Ieee.double.read b)).map Ieee.double.write = none
  rw [hd]; rfl
theorem eql_self (t : TypeId) {b : Nat} (hb : b < 2 ^ 64) : binOp .eql t (.float .f64 b) (.float .f64 b) = pure (.bool (!nan b)) := by
  rw [binOp_float_cmp_eql]; show pure (Value.bool (Ieee.double.order b b == some .eq)) = _; rw [Fl.eq_self hb]
theorem neq_zero_nan (t : TypeId) {b : Nat} (hn : nan b = true) : binOp .neq t (.float .f64 b) (.float .f64 0) = pure (.bool true) := by
  rw [binOp_float_cmp_neq]; show pure (Value.bool (Ieee.double.order b 0 != some .eq)) = _; rw [Fl.order_nan_left hn]; rfl
theorem neq_zero (t : TypeId) {b : Nat} (hb : b < 2 ^ 64) (hn : nan b = false) : binOp .neq t (.float .f64 b) (.float .f64 0) = pure (.bool (!decide (ab b = 0))) := by
  have h := eql_zero t hb hn
  rw [binOp_float_cmp_eql] at h
  rw [binOp_float_cmp_neq]
  have h2 : (Ieee.double.order b 0 == some .eq) = decide (ab b = 0) := by
    rw [Fl.eq_key hb (by decide) hn (by decide)]
    refine decide_eq_decide.2 ?_
    unfold Fl.key ab
    split <;> simp <;> omega
  show pure (Value.bool (!(Ieee.double.order b 0 == some .eq))) = _
  rw [h2]
theorem scl_of_zero {b : Nat} (hn : nan b = false) (h : ab b = 0) (k : Int) : Fl.scl b k = b := by
  unfold Fl.scl
  rw [if_pos (.inl (by rw [← ab_rung]; exact h)), Fl.canon_num hn]
theorem scl_nan_QN {b : Nat} (hn : nan b = true) (k : Int) : Fl.scl b k = Fl.QN := by
  have h : 2047 * 2 ^ 52 ≤ Fl.rung b := by rw [Fl.nan_iff] at hn; unfold Fl.rung; omega
  unfold Fl.scl
  rw [if_pos (.inr h)]
  unfold Fl.canon
  rw [hn]; rfl
end Go.Proofs.Ytbckfoldjlgabaa
