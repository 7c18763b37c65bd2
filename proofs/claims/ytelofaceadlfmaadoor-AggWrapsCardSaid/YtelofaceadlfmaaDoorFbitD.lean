/- WALKS of fbit: Whole, Of, Floor. -/
import Derived.Test.YtelofaceadlfmaaDoorFbitC
import Derived.Test.YtelofaceadlfmaaDoorFloat2
import Derived.Laws.Externs
namespace Go.Proofs.YtelofaceadlfmaaDoor
open Go.RowKit
open Fl (nan key canon ex fr)

theorem geq_num (t : TypeId) {a b : Nat} (ha : a < 2 ^ 64) (hb : b < 2 ^ 64) (na : nan a = false) (nb : nan b = false) : binOp .geq t (.float .f64 a) (.float .f64 b) = pure (.bool (decide (Fl.key b ≤ Fl.key a))) := by
  rw [binOp_float_cmp_geq]
  show pure (Value.bool (Ieee.double.order a b == some .gt || Ieee.double.order a b == some .eq)) = _
  rw [Fl.gt_key ha hb na nb, Fl.eq_key ha hb na nb]
  congr 2
  have e : Fl.key b ≤ Fl.key a ↔ (Fl.key b < Fl.key a ∨ Fl.key a = Fl.key b) := by omega
  simp only [e, Bool.decide_or]
theorem leq_num (t : TypeId) {a b : Nat} (ha : a < 2 ^ 64) (hb : b < 2 ^ 64) (na : nan a = false) (nb : nan b = false) : binOp .leq t (.float .f64 a) (.float .f64 b) = pure (.bool (decide (Fl.key a ≤ Fl.key b))) := by
  rw [binOp_float_cmp_leq]
  show pure (Value.bool (Ieee.double.order a b == some .lt || Ieee.double.order a b == some .eq)) = _
  rw [Fl.lt_key ha hb na nb, Fl.eq_key ha hb na nb]
  congr 2
  have e : Fl.key a ≤ Fl.key b ↔ (Fl.key a < Fl.key b ∨ Fl.key a = Fl.key b) := by omega
  simp only [e, Bool.decide_or]
theorem geq_top (t : TypeId) {b : Nat} (hb : b < 2 ^ 64) (hn : nan b = false) : binOp .geq t (.float .f64 b) (.float .f64 4890909195324358656) = pure (.bool (decide (b < 2 ^ 63 ∧ 1086 ≤ ex b))) := by
  rw [geq_num t hb (by decide) hn (by decide)]
  have h : key 4890909195324358656 = 4890909195324358656 := by decide
  rw [h]
  rw [Fl.nan_false] at hn
  have e : 4890909195324358656 ≤ key b ↔ (b < 2 ^ 63 ∧ 1086 ≤ ex b) := by
    unfold Fl.key ex
    split <;> omega
  simp only [e]
theorem leq_top (t : TypeId) {b : Nat} (hb : b < 2 ^ 64) (hn : nan b = false) : binOp .leq t (.float .f64 b) (.float .f64 14114281232179134464) = pure (.bool (decide (2 ^ 63 ≤ b ∧ 1086 ≤ ex b))) := by
  rw [leq_num t hb (by decide) hn (by decide)]
  have h : key 14114281232179134464 = -4890909195324358656 := by decide
  rw [h]
  rw [Fl.nan_false] at hn
  have e : key b ≤ -4890909195324358656 ↔ (2 ^ 63 ≤ b ∧ 1086 ≤ ex b) := by
    unfold Fl.key ex
    split <;> omega
  simp only [e]
set_option maxHeartbeats 1000000 in
theorem fwhole_any (b : Nat) (w : World) (hb : b < 2 ^ 64) :
    Calls Tryd.prog 22 #[.float .f64 b] w fun e w' => e = .returned (.int .i64 (Fl.whole b)) ∧ w = w' := by
  have h1 := neq_self 29 hb
  unfold Fl.whole
  cases hn : nan b with
  | true =>
    rw [hn] at h1
    clear hn hb
    go_enter Tryd.func22, Tryd.ntmps22
    go_wp2
    go_ret
    exact ⟨rfl, rfl⟩
  | false =>
    rw [hn] at h1
    have h2 := geq_top 29 hb hn
    have h3 := leq_top 29 hb hn
    simp only [Bool.false_eq_true, if_false]
    by_cases i1 : 1086 ≤ ex b
    · rw [if_pos i1]
      by_cases i2 : 2 ^ 63 ≤ b
      · rw [decide_eq_false (fun h => absurd h.1 (by omega))] at h2
        rw [decide_eq_true ⟨i2, i1⟩] at h3
        rw [if_pos i2]
        clear hn hb i1 i2
        go_enter Tryd.func22, Tryd.ntmps22
        go_wp2
        go_ret
        exact ⟨rfl, rfl⟩
      · rw [decide_eq_true ⟨by omega, i1⟩] at h2
        rw [if_neg i2]
        clear hn hb i1 i2 h3
        go_enter Tryd.func22, Tryd.ntmps22
        go_wp2
        go_ret
        exact ⟨rfl, rfl⟩
    · rw [if_neg i1]
      rw [decide_eq_false (fun h => i1 h.2)] at h2 h3
      have h4 := fun w => run_convert_float_int (P := Tryd.prog) w 29 2 .f64 .i64 b _ (by kernel_rfl) (by kernel_rfl) (Fl.floatToInt_num hb (by omega))
      clear hn hb i1
      generalize Fl.sg b (Fl.whM b) = r at *
      go_enter Tryd.func22, Tryd.ntmps22
      go_wp2
      go_ret
      exact ⟨rfl, rfl⟩
theorem floor_number {b : Nat} {s : Bool} {m : Nat} {i : Int} (hd : FloatKind.f64.decode b = .number s m i) : Go.Extern.MathFloor.toIntegral "math.archFloor" .down #[.float .f64 b] = pure (.float .f64 (FloatKind.f64.encode (Ieee.Datum.integral .down (.number s m i)))) := by
  conv => lhs; whnf
  rw [hd]
theorem floor_infinity {b : Nat} {s : Bool} (hd : FloatKind.f64.decode b = .infinity s) : Go.Extern.MathFloor.toIntegral "math.archFloor" .down #[.float .f64 b] = pure (.float .f64 (FloatKind.f64.encode (Ieee.Datum.integral .down (.infinity s)))) := by
  conv => lhs; whnf
  rw [hd]
/-- what the machine's floor gives, of what is no NaN -/
def flr (b : Nat) : Nat := Ieee.double.write ((Ieee.double.read b).integral .down)
theorem flr_lt (b : Nat) : flr b < 2 ^ 64 := Ieee.double.write_lt _
theorem write_nan (s : Bool) (t : Nat) : nan (Ieee.double.write (.nan s (Ieee.double.quiet t))) = true := by
  have h1 : Ieee.double.quiet t % 2 ^ 52 = t % 2 ^ 52 ||| 2 ^ 51 := by
    show (t ||| 2 ^ 51) % 2 ^ 52 = _
    rw [Nat.or_mod_two_pow]
  have h2 : 2 ^ 51 ≤ Ieee.double.quiet t % 2 ^ 52 := by rw [h1]; exact Nat.right_le_or
  have h3 : Ieee.double.quiet t % 2 ^ 52 < 2 ^ 52 := Nat.mod_lt _ (by decide)
  unfold Ieee.Format.write Ieee.Format.word
  simp only [Fl.sw, Fl.bn, Fl.ir]
  generalize Ieee.double.quiet t % 2 ^ 52 = q at *
  rw [Fl.nan_iff]
  split <;> omega
/-- what fbit.Floor gives -/
def floor (b : Nat) : Nat := if nan b then Fl.QN else canon (flr b)
end Go.Proofs.YtelofaceadlfmaaDoor
