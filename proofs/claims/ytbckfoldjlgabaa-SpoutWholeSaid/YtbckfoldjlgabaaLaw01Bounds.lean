/- WALK of FbitBounds. -/
import Derived.Test.YtbckfoldjlgabaaLaw01Pow
namespace Go.Proofs.Ytbckfoldjlgabaa
open Go.RowKit
open Fl (nan key canon ex)
theorem sub_self_fin {b : Nat} (hb : b < 2 ^ 64) (fin : Fl.rung b < 2047 * 2 ^ 52) : Ieee.double.sub b b = some 0 := by
  have hn : nan b = false := by rw [Fl.nan_false]; unfold Fl.rung at fin; omega
  rw [Fl.sub_flip hb hn, Fl.add_num hb (Fl.flip_lt hb) fin (by rw [Fl.flip_rung hb]; exact fin), Fl.flip_sval hb, Int.add_right_neg, if_pos rfl, Fl.flip_neg hb, Int.natAbs_zero, Fl.rv_small (Nat.two_pow_pos 53)]
  cases Fl.neg b <;> rfl
theorem sub_inf {b : Nat} (hb : b < 2 ^ 64) (h : Fl.rung b = 2047 * 2 ^ 52) : floatBits .sub .f64 b b = none := by
  show ((Ieee.double.read b).sum (Ieee.double.read b).opposite).map Ieee.double.write = none
  rw [Fl.read_inf hb h]
  cases Fl.neg b <;> rfl
theorem val_far {b : Nat} (he : 1075 ≤ ex b) : Fl.val (Fl.rung b) % Fl.U = 0 := by
  have hp : 1074 ≤ Fl.rung b / 2 ^ 52 - 1 := by rw [Fl.rung_ex]; omega
  obtain ⟨K, hK⟩ : ∃ K, K = 1074 := ⟨_, rfl⟩
  obtain ⟨c, hc⟩ : ∃ c, Fl.rung b / 2 ^ 52 - 1 = c + K := ⟨Fl.rung b / 2 ^ 52 - 1 - K, by omega⟩
  rw [Fl.val_mant, hc, Fl.U_of hK, Fl.pw_eq, Nat.pow_add, ← Nat.mul_assoc, Nat.mul_mod_left]
theorem floor_whole {b : Nat} (hb : b < 2 ^ 64) (he : ex b < 1086) (h : Fl.neg b = false ∨ Fl.val (Fl.rung b) % Fl.U = 0) : Fl.sval b / Fl.U = Fl.whole b := by
  rw [Fl.whole_fin hb he, Fl.sval_neg]
  have hF := Fl.int_floor (Fl.val (Fl.rung b)) Fl.U Fl.U_pos
  cases hg : Fl.neg b
  · simp only [Bool.false_eq_true, if_false]
    exact (Int.natCast_ediv _ _).symm
  · simp only [if_true]
    have h0 := h.resolve_left (by rw [hg]; decide)
    rw [hF, h0]
    show -((_ + 0 : Nat) : Int) = _
    rw [Nat.add_zero]
theorem of_whole_far {b : Nat} (hb : b < 2 ^ 64) (h1 : 1075 ≤ ex b) (h2 : ex b < 1086) : floatOfInt .f64 (Fl.whole b) = b := by
  have fin := Fl.fin_of_ex (b := b) (by omega)
  have hn : nan b = false := by rw [Fl.nan_false]; unfold Fl.rung at fin; omega
  rw [← floor_whole hb h2 (.inr (val_far h1)), ← Fl.flr_int hb fin (by unfold Fl.ex at h1; unfold Fl.rung; omega)]
  exact Fl.flr_far hb hn h1
theorem floor_itself {b : Nat} (hb : b < 2 ^ 64) (hn : nan b = false) (h : Fl.rung b = 0 ∨ 1075 ≤ ex b) : floor b = b := by
  rw [floor_far hb h, Fl.canon_num hn]
theorem key_eq_sval {a b : Nat} (ha : a < 2 ^ 64) (hb : b < 2 ^ 64) (h : Fl.sval a = Fl.sval b) : key a = key b := by
  have h1 := Fl.key_sval ha hb
  have h2 := Fl.key_sval hb ha
  omega
theorem flip52 : Op.unary .neg (.float .f64 4841369599423283200) = pure (.float .f64 14064741636278059008) := unary_neg (b := 4841369599423283200) (by decide)
theorem flip63 : Op.unary .neg (.float .f64 4890909195324358656) = pure (.float .f64 14114281232179134464) := unary_neg (b := 4890909195324358656) (by decide)
theorem scale52 (w : World) : Calls Try.prog 94 #[.float .f64 4607182418800017408, .int .i64 52] w fun e w' => e = .returned (.float .f64 4841369599423283200) ∧ w = w' := by
  have h := fscale_any 4607182418800017408 52 w (by decide)
  rw [show Fl.scl 4607182418800017408 52 = 4841369599423283200 by decide +kernel] at h
  exact h
theorem scale63 (w : World) : Calls Try.prog 94 #[.float .f64 4607182418800017408, .int .i64 63] w fun e w' => e = .returned (.float .f64 4890909195324358656) ∧ w = w' := by
  have h := fscale_any 4607182418800017408 63 w (by decide)
  rw [show Fl.scl 4607182418800017408 63 = 4890909195324358656 by decide +kernel] at h
  exact h
end Go.Proofs.Ytbckfoldjlgabaa
