/- WALKS of fbit: Whole, Of, Floor. -/
import Derived.Test.YtbckfoldjlgabaaFbitC
import Derived.Test.YtbckfoldjlgabaaFloat2
import Derived.Laws.Externs
namespace Go.Proofs.Ytbckfoldjlgabaa
open Go.RowKit
open Fl (nan key canon ex fr)

theorem geq_num (t : TypeId) {a b : Nat} (ha : a < 2 ^ 64) (hb : b < 2 ^ 64) (na : nan a = false) (nb : nan b = false) : binOp .geq t (.float .f64 a) (.float .f64 b) = pure (.bool (decide (Fl.key b ≤ Fl.key a))) := by
  rw [binOp_float_cmp_geq]
  show pure (Value.bool (Ieee.double.order a b == some .gt || Ieee.double.order a b == some .eq)) = _
  rw [Fl.gt_key ha hb na nb, Fl.eq_key ha hb na nb]
  congr 2
  have e : Fl.key b ≤ Fl.key a ↔ (Fl.key b < Fl.key a ∨ Fl.key a = Fl.key b) := by omega
  simp only [e, Bool.decide_or]
theorem leq_num (t : TypeId) {a b : Nat} (ha : a < 2 ^ 64) (hb : b < 2 ^ 64) (na : nan a = false) (nb : nan b = false) : binOp .leq t (.float .f64 a) (.float .f64 b) = pure (.bool (decide (Fl.key a ≤ Fl.key b))) := by
  rw [binOp_float_cmp_leq]
  show pure (Value.bool (Ieee.double.order a b == some .lt || Ieee.double.order a b == some .eq)) = _
  rw [Fl.lt_key ha hb na nb, Fl.eq_key ha hb na nb]
  congr 2
  have e : Fl.key a ≤ Fl.key b ↔ (Fl.key a < Fl.key b ∨ Fl.key a = Fl.key b) := by omega
  simp only [e, Bool.decide_or]
theorem geq_top (t : TypeId) {b : Nat} (hb : b < 2 ^ 64) (hn : nan b = false) : binOp .geq t (.float .f64 b) (.float .f64 4890909195324358656) = pure (.bool (decide (b < 2 ^ 63 ∧ 1086 ≤ ex b))) := by
  rw [geq_num t hb (by decide) hn (by decide)]
  have h : key 4890909195324358656 = 4890909195324358656 := by decide
  rw [h]
  rw [Fl.nan_false] at hn
  have e : 4890909195324358656 ≤ key b ↔ (b < 2 ^ 63 ∧ 1086 ≤ ex b) := by
    unfold Fl.key ex
    split <;> omega
  simp only [e]
theorem leq_top (t : TypeId) {b : Nat} (hb : b < 2 ^ 64) (hn : nan b = false) : binOp .leq t (.float .f64 b) (.float .f64 14114281232179134464) = pure (.bool (decide (2 ^ 63 ≤ b ∧ 1086 ≤ ex b))) := by
  rw [leq_num t hb (by decide) hn (by decide)]
  have h : key 14114281232179134464 = -4890909195324358656 := by decide
  rw [h]
  rw [Fl.nan_false] at hn
  have e : key b ≤ -4890909195324358656 ↔ (2 ^ 63 ≤ b ∧ 1086 ≤ ex b) := by
    unfold Fl.key ex
    split <;> omega
  simp only [e]
set_option maxHeartbeats 1000000 in
theorem fwhole_any (b : Nat) (w : World) (hb : b < 2 ^ 64) :
    Calls Try.prog 96 #[.float .f64 b] w fun e w' => e = .returned (.int .i64 (Fl.whole b)) ∧ w = w' := by
  have h1 := neq_self 64 hb
  unfold Fl.whole
  cases hn : nan b with
  | true =>
    rw [hn] at h1
    clear hn hb
    go_enter Try.func96, Try.ntmps96
    go_wp2
    go_ret
    exact ⟨rfl, rfl⟩
  | false =>
    rw [hn] at h1
    have h2 := geq_top 64 hb hn
    have h3 := leq_top 64 hb hn
    simp only [Bool.false_eq_true, if_false]
    by_cases i1 : 1086 ≤ ex b
    · rw [if_pos i1]
      by_cases i2 : 2 ^ 63 ≤ b
      · rw [decide_eq_false (fun h => absurd h.1 (by omega))] at h2
        rw [decide_eq_true ⟨i2, i1⟩] at h3
        rw [if_pos i2]
        clear hn hb i1 i2
        go_enter Try.func96, Try.ntmps96
        go_wp2
        go_ret
        exact ⟨rfl, rfl⟩
      · rw [decide_eq_true ⟨by omega, i1⟩] at h2
        rw [if_neg i2]
        clear hn hb i1 i2 h3
        go_enter Try.func96, Try.ntmps96
        go_wp2
        go_ret
        exact ⟨rfl, rfl⟩
    · rw [if_neg i1]
      rw [decide_eq_false (fun h => i1 h.2)] at h2 h3
      have h4 := fun w => run_convert_float_int (P := Try.prog) w 64 2 .f64 .i64 b _ (by kernel_rfl) (by kernel_rfl) (Fl.floatToInt_num hb (by omega))
      clear hn hb i1
      generalize Fl.sg b (Fl.whM b) = r at *
      go_enter Try.func96, Try.ntmps96
      go_wp2
      go_ret
      exact ⟨rfl, rfl⟩
set_option maxHeartbeats 400000 in
theorem of_any (n : Int) (w : World) :
    Calls Try.prog 95 #[.int .i64 n] w fun e w' => e = .returned (.float .f64 (floatOfInt .f64 n)) ∧ w = w' := by
  go_enter Try.func95, Try.ntmps95
  go_wp2
  go_ret
  exact ⟨rfl, rfl⟩
theorem run_floor (b : Nat) (w : World) : (callFunc 99 #[.float .f64 b]).run Try.prog w = ((Go.Extern.MathFloor.toIntegral "math.archFloor" .down #[.float .f64 b]).run Try.prog w).andThen fun v w' => .ok (.value v) w' :=
  run_callFunc_extern (P := Try.prog) (f := 99) (fn := Try.f99) (e := Go.Extern.MathFloor.toIntegral "math.archFloor" .down) (by kernel_rfl) (by kernel_rfl) (by kernel_rfl) (by kernel_rfl) (by kernel_rfl) _ _
theorem floor_number {b : Nat} {s : Bool} {m : Nat} {i : Int} (hd : FloatKind.f64.decode b = .number s m i) : Go.Extern.MathFloor.toIntegral "math.archFloor" .down #[.float .f64 b] = pure (.float .f64 (FloatKind.f64.encode (Ieee.Datum.integral .down (.number s m i)))) := by
  conv => lhs; whnf
  rw [hd]
theorem floor_infinity {b : Nat} {s : Bool} (hd : FloatKind.f64.decode b = .infinity s) : Go.Extern.MathFloor.toIntegral "math.archFloor" .down #[.float .f64 b] = pure (.float .f64 (FloatKind.f64.encode (Ieee.Datum.integral .down (.infinity s)))) := by
  conv => lhs; whnf
  rw [hd]
/-- what the machine's floor gives, of what is no NaN -/
def flr (b : Nat) : Nat := Ieee.double.write ((Ieee.double.read b).integral .down)
theorem flr_lt (b : Nat) : flr b < 2 ^ 64 := Ieee.double.write_lt _
theorem run_floor_num {b : Nat} (hb : b < 2 ^ 64) (hn : nan b = false) (w : World) : (callFunc 99 #[.float .f64 b]).run Try.prog w = .ok (.value (.float .f64 (flr b))) w := by
  rw [run_floor]
  rw [Fl.nan_false] at hn
  unfold flr
  rcases Nat.lt_or_ge (Fl.rung b) (2047 * 2 ^ 52) with h1 | h1
  · rw [floor_number (Fl.read_num hb h1), Fl.read_num hb h1]
    rfl
  · have h2 := Fl.read_inf hb (show Fl.rung b = 2047 * 2 ^ 52 by unfold Fl.rung at h1 ⊢; omega)
    rw [floor_infinity h2, h2]
    rfl
theorem write_nan (s : Bool) (t : Nat) : nan (Ieee.double.write (.nan s (Ieee.double.quiet t))) = true := by
  have h1 : Ieee.double.quiet t % 2 ^ 52 = t % 2 ^ 52 ||| 2 ^ 51 := by
    show (t ||| 2 ^ 51) % 2 ^ 52 = _
    rw [Nat.or_mod_two_pow]
  have h2 : 2 ^ 51 ≤ Ieee.double.quiet t % 2 ^ 52 := by rw [h1]; exact Nat.right_le_or
  have h3 : Ieee.double.quiet t % 2 ^ 52 < 2 ^ 52 := Nat.mod_lt _ (by decide)
  unfold Ieee.Format.write Ieee.Format.word
  simp only [Fl.sw, Fl.bn, Fl.ir]
  generalize Ieee.double.quiet t % 2 ^ 52 = q at *
  rw [Fl.nan_iff]
  split <;> omega
theorem run_floor_nan {b : Nat} (hn : nan b = true) (hb : b < 2 ^ 64) (w : World) : ∃ v w', (callFunc 99 #[.float .f64 b]).run Try.prog w = .ok (.value (.float .f64 v)) w' ∧ nan v = true ∧ v < 2 ^ 64 ∧ (w' = w ∨ w' = w.drew) := by
  rw [run_floor]
  obtain ⟨s, t, hd⟩ := Fl.read_nan hn
  conv in Go.Extern.MathFloor.toIntegral _ _ _ => whnf
  rw [show FloatKind.f64.decode b = .nan s t from hd]
  dsimp only
  have hq : nan (FloatKind.f64.encode (.nan s (FloatKind.f64.format.quiet t))) = true := write_nan s t
  have hl : FloatKind.f64.encode (.nan s (FloatKind.f64.format.quiet t)) < 2 ^ 64 := Ieee.double.write_lt _
  split
  · exact ⟨b, w, rfl, hn, hb, .inl rfl⟩
  · simp
    split
    · exact ⟨_, w, rfl, hq, hl, .inl rfl⟩
    · split
      · exact ⟨b, w.drew, rfl, hn, hb, .inr rfl⟩
      · exact ⟨_, w.drew, rfl, hq, hl, .inr rfl⟩
/-- what fbit.Floor gives -/
def floor (b : Nat) : Nat := if nan b then Fl.QN else canon (flr b)
set_option maxHeartbeats 400000 in
set_option maxRecDepth 10000 in
theorem ffloor_any (b : Nat) (w : World) (hb : b < 2 ^ 64) :
    Calls Try.prog 93 #[.float .f64 b] w fun e w' => e = .returned (.float .f64 (floor b)) ∧ Below w.heap.size w w' := by
  unfold floor
  cases hn : nan b with
  | false =>
    have h1 := run_floor_num hb hn
    have c1 := fun w => canon_any (flr b) w (flr_lt b)
    simp only [Bool.false_eq_true, if_false]
    have C1 := Lib.hid c1
    clear c1 hn hb
    generalize flr b = f at *
    have C2 : ∀ w, Calls Try.prog 97 #[.float .f64 b] w fun e w' => e = .returned (.float .f64 f) ∧ w = w' := fun w => by
      go_enter Try.func97, Try.ntmps97
      go_wp2
      go_ret
      exact ⟨rfl, rfl⟩
    clear h1
    have C2 := Lib.hid C2
    go_enter Try.func93, Try.ntmps93
    go_wp2_with fail
    refine (C2.out _).mono ?_
    rintro e w' ⟨rfl, rfl⟩
    go_wp2_with fail
    refine (C1.out _).mono ?_
    rintro e w' ⟨rfl, rfl⟩
    go_wp2_with fail
    go_ret
    exact ⟨rfl, Below.refl _ _⟩
  | true =>
    simp only [if_true]
    obtain ⟨v, w', h1, hv, hl, hw⟩ := run_floor_nan hn hb w
    have c1 := fun w => canon_any v w hl
    rw [show canon v = Fl.QN by unfold Fl.canon; rw [hv]; rfl] at c1
    have C1 := Lib.hid c1
    have HW : Below w.heap.size w w' := by
      rcases hw with rfl | rfl
      · exact Below.refl _ _
      · exact (Below.refl _ _).drew
    clear c1 hn hb hv hl hw
    have C2 : Calls Try.prog 97 #[.float .f64 b] w fun e w2 => e = .returned (.float .f64 v) ∧ w2 = w' := by
      go_enter Try.func97, Try.ntmps97
      go_wp2
      go_ret
      exact ⟨rfl, rfl⟩
    have C2 := Lib.hid C2
    clear h1
    go_enter Try.func93, Try.ntmps93
    go_wp2_with fail
    refine C2.out.mono ?_
    rintro e w2 ⟨rfl, rfl⟩
    go_wp2_with fail
    refine (C1.out _).mono ?_
    rintro e w3 ⟨rfl, rfl⟩
    go_wp2_with fail
    go_ret
    exact ⟨rfl, HW⟩
end Go.Proofs.Ytbckfoldjlgabaa
