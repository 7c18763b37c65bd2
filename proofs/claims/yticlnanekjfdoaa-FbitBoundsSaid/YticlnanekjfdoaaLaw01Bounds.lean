/- WALK of FbitBounds. -/
import Derived.Test.YticlnanekjfdoaaLaw01Pow
namespace Go.Proofs.Yticlnanekjfdoaa
open Go.RowKit
open Fl (nan key canon ex)
theorem sub_self_fin {b : Nat} (hb : b < 2 ^ 64) (fin : Fl.rung b < 2047 * 2 ^ 52) : Ieee.double.sub b b = some 0 := by
  have hn : nan b = false := by rw [Fl.nan_false]; unfold Fl.rung at fin; omega
  rw [Fl.sub_flip hb hn, Fl.add_num hb (Fl.flip_lt hb) fin (by rw [Fl.flip_rung hb]; exact fin), Fl.flip_sval hb, Int.add_right_neg, if_pos rfl, Fl.flip_neg hb, Int.natAbs_zero, Fl.rv_small (Nat.two_pow_pos 53)]
  cases Fl.neg b <;> rfl
theorem sub_inf {b : Nat} (hb : b < 2 ^ 64) (h : Fl.rung b = 2047 * 2 ^ 52) : floatBits .sub .f64 b b = none := by
  show ((Ieee.double.read b).sum (Ieee.double.read b).opposite).map Ieee.double.write = none
  rw [Fl.read_inf hb h]
  cases Fl.neg b <;> rfl
theorem val_far {b : Nat} (he : 1075 ≤ ex b) : Fl.val (Fl.rung b) % Fl.U = 0 := by
  have hp : 1074 ≤ Fl.rung b / 2 ^ 52 - 1 := by rw [Fl.rung_ex]; omega
  obtain ⟨K, hK⟩ : ∃ K, K = 1074 := ⟨_, rfl⟩
  obtain ⟨c, hc⟩ : ∃ c, Fl.rung b / 2 ^ 52 - 1 = c + K := ⟨Fl.rung b / 2 ^ 52 - 1 - K, by omega⟩
  rw [Fl.val_mant, hc, Fl.U_of hK, Fl.pw_eq, Nat.pow_add, ← Nat.mul_assoc, Nat.mul_mod_left]
theorem floor_whole {b : Nat} (hb : b < 2 ^ 64) (he : ex b < 1086) (h : Fl.neg b = false ∨ Fl.val (Fl.rung b) % Fl.U = 0) : Fl.sval b / Fl.U = Fl.whole b := by
  rw [Fl.whole_fin hb he, Fl.sval_neg]
  have hF := Fl.int_floor (Fl.val (Fl.rung b)) Fl.U Fl.U_pos
  cases hg : Fl.neg b
  · simp only [Bool.false_eq_true, if_false]
    exact (Int.natCast_ediv _ _).symm
  · simp only [if_true]
    have h0 := h.resolve_left (by rw [hg]; decide)
    rw [hF, h0]
    show -((_ + 0 : Nat) : Int) = _
    rw [Nat.add_zero]
theorem of_whole_far {b : Nat} (hb : b < 2 ^ 64) (h1 : 1075 ≤ ex b) (h2 : ex b < 1086) : floatOfInt .f64 (Fl.whole b) = b := by
  have fin := Fl.fin_of_ex (b := b) (by omega)
  have hn : nan b = false := by rw [Fl.nan_false]; unfold Fl.rung at fin; omega
  rw [← floor_whole hb h2 (.inr (val_far h1)), ← Fl.flr_int hb fin (by unfold Fl.ex at h1; unfold Fl.rung; omega)]
  exact Fl.flr_far hb hn h1
theorem floor_itself {b : Nat} (hb : b < 2 ^ 64) (hn : nan b = false) (h : Fl.rung b = 0 ∨ 1075 ≤ ex b) : floor b = b := by
  rw [floor_far hb h, Fl.canon_num hn]
theorem key_eq_sval {a b : Nat} (ha : a < 2 ^ 64) (hb : b < 2 ^ 64) (h : Fl.sval a = Fl.sval b) : key a = key b := by
  have h1 := Fl.key_sval ha hb
  have h2 := Fl.key_sval hb ha
  omega
theorem flip52 : Op.unary .neg (.float .f64 4841369599423283200) = pure (.float .f64 14064741636278059008) := unary_neg (b := 4841369599423283200) (by decide)
theorem flip63 : Op.unary .neg (.float .f64 4890909195324358656) = pure (.float .f64 14114281232179134464) := unary_neg (b := 4890909195324358656) (by decide)
theorem scale52 (w : World) : Calls Try.prog 27 #[.float .f64 4607182418800017408, .int .i64 52] w fun e w' => e = .returned (.float .f64 4841369599423283200) ∧ w = w' := by
  have h := fscale_any 4607182418800017408 52 w (by decide)
  rw [show Fl.scl 4607182418800017408 52 = 4841369599423283200 by decide +kernel] at h
  exact h
theorem scale63 (w : World) : Calls Try.prog 27 #[.float .f64 4607182418800017408, .int .i64 63] w fun e w' => e = .returned (.float .f64 4890909195324358656) ∧ w = w' := by
  have h := fscale_any 4607182418800017408 63 w (by decide)
  rw [show Fl.scl 4607182418800017408 63 = 4890909195324358656 by decide +kernel] at h
  exact h
set_option maxRecDepth 100000 in
set_option maxHeartbeats 16000000 in
theorem bounds_any (b : Nat) (w : World) (hb : b < 2 ^ 64) :
    Calls Try.prog 8 #[.float .f64 b] w fun e w' => e = .returned (.bool true) ∧ Below w.heap.size w w' := by
  have C1 := Lib.hid awake_any
  have CS : Hid (∀ a w, Calls Try.prog 14 #[.float .f64 a, .float .f64 a] w fun e w' => e = .returned (.bool true) ∧ w = w') := Lib.hid (fun a w => by have c := same_any a a w; rw [decide_eq_true rfl] at c; exact c)
  have S52 := Lib.hid scale52
  have S63 := Lib.hid scale63
  have u52 := flip52
  have u63 := flip63
  have k52 : key 4841369599423283200 = 4841369599423283200 := by decide
  have k52' : key 14064741636278059008 = -4841369599423283200 := by decide
  have k63 : key 14114281232179134464 = -4890909195324358656 := by decide
  have k0 : key 0 = 0 := by decide
  have cf := fun w => ffloor_any b w hb
  have cw := fun w => fwhole_any b w hb
  have n1 := neq_self 24 hb
  have p : Below w.heap.size w w := Below.refl _ _
  cases hn : nan b with
  | true =>
    rw [hn] at n1
    rw [show floor b = Fl.QN by unfold floor; rw [hn]; rfl] at cf
    rw [show Fl.whole b = 0 by unfold Fl.whole; rw [hn]; rfl] at cw
    have CF := Lib.hid cf
    have CW := Lib.hid cw
    have CB : Hid (∀ w, Calls Try.prog 29 #[.int .u64 9221120237041090561] w fun e w' => e = .returned (.float .f64 Fl.QN) ∧ w = w') := Lib.hid (fun w => by_any 9221120237041090561 w)
    clear cf cw hn hb k52 k52' k63 k0 u52 u63 S52 S63
    generalize Fl.QN = q at *
    go_enter Try.func8, Try.ntmps8
    go_wp2_with fail
    refine (C1.out _).mono ?_
    rintro e v ⟨rfl, hb'⟩
    replace p := bel_call p hb'
    clear hb'
    go_wp2_with fail
    refine (CF.out _).mono ?_
    rintro e v ⟨rfl, hb'⟩
    replace p := bel_call p hb'
    clear hb'
    go_wp2_with fail
    refine (CW.out _).mono ?_
    rintro e v ⟨rfl, rfl⟩
    go_wp2_with fail
    refine (CB.out _).mono ?_
    rintro e v ⟨rfl, rfl⟩
    go_wp2_with fail
    refine (CS.out _ _).mono ?_
    rintro e v ⟨rfl, rfl⟩
    go_wp2_with fail
    go_ret
    exact ⟨rfl, (by repeat' (first | with_reducible exact Below.refl _ _ | with_reducible assumption | with_reducible refine bel_drew ?_ | with_reducible refine bel_alloc ?_ _ | with_reducible refine bel_set ?_ ?_ _ | with_reducible refine bel_call ?_ (by assumption) | (dsimp only; omega) | (simp; done) | (simp; omega)))⟩
  | false =>
    rw [hn] at n1
    have e0 := eql_zero 24 hb hn
    have z := neq_zero 24 hb hn
    have l0 := leq_num 24 (b := 0) hb (by decide) hn (by decide)
    have g0 := geq_num 24 (b := 0) hb (by decide) hn (by decide)
    rw [k0] at l0 g0
    have hnn := Fl.nan_false.1 hn
    by_cases i1 : Fl.rung b = 2047 * 2 ^ 52
    · have hx : 1086 ≤ ex b := by unfold Fl.rung at i1; unfold Fl.ex; omega
      obtain ⟨nv, hv⟩ : ∃ nv : World → Nat, ∀ w, (binOp .sub 24 (.float .f64 b) (.float .f64 b)).run Try.prog w = .ok (.float .f64 (nv w)) w.drew ∧ nan (nv w) = true ∧ nv w < 2 ^ 64 := by
        have h := run_arith_nan .sub 24 (.inr rfl) (sub_inf hb i1)
        exact ⟨fun w => (h w).choose, fun w => (h w).choose_spec⟩
      have hv1 := fun w => (hv w).1
      have hv2 := fun w => neq_zero_nan 24 (hv w).2.1
      rw [floor_itself hb hn (.inr (by omega))] at cf
      have CF := Lib.hid cf
      rw [decide_eq_false (show ¬ ab b = 0 by rw [ab_rung, i1]; decide)] at z e0
      by_cases i2 : 2 ^ 63 ≤ b
      · rw [show Fl.whole b = -9223372036854775808 by unfold Fl.whole; rw [hn, if_neg (by decide), if_pos hx, if_pos i2]] at cw
        have CW := Lib.hid cw
        have kb : key b < 0 := by rw [Fl.neg_rung hb, i1]; unfold Fl.neg; simp [i2]
        rw [decide_eq_true (by omega)] at l0
        rw [decide_eq_false (by omega)] at g0
        clear cf cw hn hb k52 k52' k63 k0 u52 u63 S52 S63 hv hnn i1 i2 hx kb
        go_enter Try.func8, Try.ntmps8
        go_wp2_with fail
        refine (C1.out _).mono ?_
        rintro e v ⟨rfl, hb'⟩
        replace p := bel_call p hb'
        clear hb'
        go_wp2_with fail
        refine (CF.out _).mono ?_
        rintro e v ⟨rfl, hb'⟩
        replace p := bel_call p hb'
        clear hb'
        go_wp2_with fail
        refine (CW.out _).mono ?_
        rintro e v ⟨rfl, rfl⟩
        go_wp2_with fail
        refine (CS.out _ _).mono ?_
        rintro e v ⟨rfl, rfl⟩
        go_wp2_with fail
        go_ret
        exact ⟨rfl, (by repeat' (first | with_reducible exact Below.refl _ _ | with_reducible assumption | with_reducible refine bel_drew ?_ | with_reducible refine bel_alloc ?_ _ | with_reducible refine bel_set ?_ ?_ _ | with_reducible refine bel_call ?_ (by assumption) | (dsimp only; omega) | (simp; done) | (simp; omega)))⟩
      · rw [show Fl.whole b = 9223372036854775807 by unfold Fl.whole; rw [hn, if_neg (by decide), if_pos hx, if_neg i2]] at cw
        have CW := Lib.hid cw
        have kb : 0 < key b := by rw [Fl.neg_rung hb, i1]; unfold Fl.neg; simp [i2]
        rw [decide_eq_false (by omega)] at l0
        rw [decide_eq_true (by omega)] at g0
        clear cf cw hn hb k52 k52' k63 k0 u52 u63 S52 S63 hv hnn i1 i2 hx kb
        go_enter Try.func8, Try.ntmps8
        go_wp2_with fail
        refine (C1.out _).mono ?_
        rintro e v ⟨rfl, hb'⟩
        replace p := bel_call p hb'
        clear hb'
        go_wp2_with fail
        refine (CF.out _).mono ?_
        rintro e v ⟨rfl, hb'⟩
        replace p := bel_call p hb'
        clear hb'
        go_wp2_with fail
        refine (CW.out _).mono ?_
        rintro e v ⟨rfl, rfl⟩
        go_wp2_with fail
        refine (CS.out _ _).mono ?_
        rintro e v ⟨rfl, rfl⟩
        go_wp2_with fail
        go_ret
        exact ⟨rfl, (by repeat' (first | with_reducible exact Below.refl _ _ | with_reducible assumption | with_reducible refine bel_drew ?_ | with_reducible refine bel_alloc ?_ _ | with_reducible refine bel_set ?_ ?_ _ | with_reducible refine bel_call ?_ (by assumption) | (dsimp only; omega) | (simp; done) | (simp; omega)))⟩
    have fin : Fl.rung b < 2047 * 2 ^ 52 := by unfold Fl.rung at i1 ⊢; omega
    have hs := fun w => run_float_arith (P := Try.prog) w .sub 24 .f64 b b 0 (sub_self_fin hb fin)
    have z0 := neq_zero 24 (b := 0) (by decide) (by decide)
    rw [decide_eq_true (show ab 0 = 0 by decide)] at z0
    by_cases i2 : Fl.rung b = 0
    · rw [floor_itself hb hn (.inl i2)] at cf
      have CF := Lib.hid cf
      rw [decide_eq_true (show ab b = 0 by rw [ab_rung]; exact i2)] at z e0
      have kb : key b = 0 := by rw [Fl.neg_rung hb, i2]; cases Fl.neg b <;> rfl
      rw [kb] at l0 g0
      rw [show Fl.whole b = 0 by rw [Fl.whole_fin hb (by unfold Fl.rung at i2; unfold Fl.ex; omega), i2, Fl.val_zero, Nat.zero_div]; cases Fl.neg b <;> rfl] at cw
      have CW := Lib.hid cw
      clear cf cw hn hb k52 k52' k63 k0 u52 u63 S52 S63 hnn i1 i2 fin kb
      go_enter Try.func8, Try.ntmps8
      go_wp2_with fail
      refine (C1.out _).mono ?_
      rintro e v ⟨rfl, hb'⟩
      replace p := bel_call p hb'
      clear hb'
      go_wp2_with fail
      refine (CF.out _).mono ?_
      rintro e v ⟨rfl, hb'⟩
      replace p := bel_call p hb'
      clear hb'
      go_wp2_with fail
      refine (CW.out _).mono ?_
      rintro e v ⟨rfl, rfl⟩
      go_wp2_with fail
      refine (CS.out _ _).mono ?_
      rintro e v ⟨rfl, rfl⟩
      go_wp2_with fail
      go_ret
      exact ⟨rfl, (by repeat' (first | with_reducible exact Below.refl _ _ | with_reducible assumption | with_reducible refine bel_drew ?_ | with_reducible refine bel_alloc ?_ _ | with_reducible refine bel_set ?_ ?_ _ | with_reducible refine bel_call ?_ (by assumption) | (dsimp only; omega) | (simp; done) | (simp; omega)))⟩
    rw [decide_eq_false (show ¬ ab b = 0 by rw [ab_rung]; exact i2)] at z e0
    have ffl := @floor_lt b
    have g1 := gtr_num 24 (a := 4841369599423283200) (by decide) hb (by decide) hn
    have g2 := gtr_num 24 (b := 14064741636278059008) hb (by decide) hn (by decide)
    have g3 := geq_top 24 hb hn
    have g4 := lss_num 24 (b := 14114281232179134464) hb (by decide) hn (by decide)
    rw [k52] at g1
    rw [k52'] at g2
    rw [k63] at g4
    have kb := Fl.neg_rung hb
    have gx : Fl.neg b = true ↔ 2 ^ 63 ≤ b := by unfold Fl.neg; simp
    by_cases i3 : 1075 ≤ ex b
    · have hfb := floor_itself hb hn (.inr i3)
      have gs := gtr_num 24 hb hb hn hn
      rw [decide_eq_false (Int.lt_irrefl _)] at gs
      rw [hfb] at cf
      have CF := Lib.hid cf
      have CO := Lib.hid (fun w => of_any (Fl.whole b) w)
      have hr : 1075 * 2 ^ 52 ≤ Fl.rung b := by unfold Fl.ex at i3; unfold Fl.rung; omega
      cases hg : Fl.neg b
      · have hp : b < 2 ^ 63 := Nat.lt_of_not_le (fun h => by rw [gx.2 h] at hg; cases hg)
        rw [hg] at kb
        simp only [Bool.false_eq_true, if_false] at kb
        rw [decide_eq_false (by omega)] at g1
        rw [decide_eq_true (by omega)] at g0
        by_cases i4 : 1086 ≤ ex b
        · rw [decide_eq_true ⟨hp, i4⟩] at g3
          rw [show Fl.whole b = 9223372036854775807 by unfold Fl.whole; rw [hn, if_neg (by decide), if_pos i4, if_neg (by omega)]] at cw
          have CW := Lib.hid cw
          clear cf cw hn hb k52 k52' k63 k0 u52 u63 hnn i1 i2 fin kb i3 hr hp gx i4 hfb hg CO g4 l0 g2
          go_enter Try.func8, Try.ntmps8
          go_wp2_with fail
          refine (C1.out _).mono ?_
          rintro e v ⟨rfl, hb'⟩
          replace p := bel_call p hb'
          clear hb'
          go_wp2_with fail
          refine (CF.out _).mono ?_
          rintro e v ⟨rfl, hb'⟩
          replace p := bel_call p hb'
          clear hb'
          go_wp2_with fail
          refine (CW.out _).mono ?_
          rintro e v ⟨rfl, rfl⟩
          go_wp2_with fail
          refine (CF.out _).mono ?_
          rintro e v ⟨rfl, hb'⟩
          replace p := bel_call p hb'
          clear hb'
          go_wp2_with fail
          refine (CS.out _ _).mono ?_
          rintro e v ⟨rfl, rfl⟩
          go_wp2_with fail
          refine (S52.out _).mono ?_
          rintro e v ⟨rfl, rfl⟩
          go_wp2_with fail
          refine (S63.out _).mono ?_
          rintro e v ⟨rfl, rfl⟩
          go_wp2_with fail
          go_ret
          exact ⟨rfl, (by repeat' (first | with_reducible exact Below.refl _ _ | with_reducible assumption | with_reducible refine bel_drew ?_ | with_reducible refine bel_alloc ?_ _ | with_reducible refine bel_set ?_ ?_ _ | with_reducible refine bel_call ?_ (by assumption) | (dsimp only; omega) | (simp; done) | (simp; omega)))⟩
        · rw [decide_eq_false (fun h => i4 h.2)] at g3
          have hk : ¬ key b < -4890909195324358656 := by omega
          rw [decide_eq_false hk] at g4
          have hl := leq_num 24 hb hb hn hn
          rw [decide_eq_true (Int.le_refl _)] at hl
          rw [of_whole_far hb i3 (by omega)] at CO
          have CW := Lib.hid cw
          clear cf cw hn hb k52 k52' k63 k0 u52 hnn i1 i2 fin kb i3 hr hp gx i4 hfb hg l0 g2 hk
          generalize Fl.whole b = W at *
          go_enter Try.func8, Try.ntmps8
          go_wp2_with fail
          refine (C1.out _).mono ?_
          rintro e v ⟨rfl, hb'⟩
          replace p := bel_call p hb'
          clear hb'
          go_wp2_with fail
          refine (CF.out _).mono ?_
          rintro e v ⟨rfl, hb'⟩
          replace p := bel_call p hb'
          clear hb'
          go_wp2_with fail
          refine (CW.out _).mono ?_
          rintro e v ⟨rfl, rfl⟩
          go_wp2_with fail
          refine (CF.out _).mono ?_
          rintro e v ⟨rfl, hb'⟩
          replace p := bel_call p hb'
          clear hb'
          go_wp2_with fail
          refine (CS.out _ _).mono ?_
          rintro e v ⟨rfl, rfl⟩
          go_wp2_with fail
          refine (S52.out _).mono ?_
          rintro e v ⟨rfl, rfl⟩
          go_wp2_with fail
          refine (S63.out _).mono ?_
          rintro e v ⟨rfl, rfl⟩
          go_wp2_with fail
          refine (S63.out _).mono ?_
          rintro e v ⟨rfl, rfl⟩
          go_wp2_with fail
          refine (CO.out _).mono ?_
          rintro e v ⟨rfl, rfl⟩
          go_wp2_with fail
          refine (CS.out _ _).mono ?_
          rintro e v ⟨rfl, rfl⟩
          go_wp2_with fail
          go_ret
          exact ⟨rfl, (by repeat' (first | with_reducible exact Below.refl _ _ | with_reducible assumption | with_reducible refine bel_drew ?_ | with_reducible refine bel_alloc ?_ _ | with_reducible refine bel_set ?_ ?_ _ | with_reducible refine bel_call ?_ (by assumption) | (dsimp only; omega) | (simp; done) | (simp; omega)))⟩
      · have hp : 2 ^ 63 ≤ b := gx.1 hg
        rw [hg] at kb
        simp only [if_true] at kb
        rw [decide_eq_true (by omega)] at g1
        rw [decide_eq_false (by omega)] at g2
        rw [decide_eq_false (by omega)] at g0
        rw [decide_eq_false (fun h => absurd h.1 (by omega))] at g3
        by_cases i4 : key b < -4890909195324358656
        · have hx : 1086 ≤ ex b := by rw [← Fl.rung_ex]; omega
          rw [decide_eq_true i4] at g4
          rw [show Fl.whole b = -9223372036854775808 by unfold Fl.whole; rw [hn, if_neg (by decide), if_pos hx, if_pos hp]] at cw
          have CW := Lib.hid cw
          clear cf cw hn hb k52 k52' k63 k0 hnn i1 i2 fin kb i3 hr hp gx i4 hfb hg CO l0 hx
          go_enter Try.func8, Try.ntmps8
          go_wp2_with fail
          refine (C1.out _).mono ?_
          rintro e v ⟨rfl, hb'⟩
          replace p := bel_call p hb'
          clear hb'
          go_wp2_with fail
          refine (CF.out _).mono ?_
          rintro e v ⟨rfl, hb'⟩
          replace p := bel_call p hb'
          clear hb'
          go_wp2_with fail
          refine (CW.out _).mono ?_
          rintro e v ⟨rfl, rfl⟩
          go_wp2_with fail
          refine (CF.out _).mono ?_
          rintro e v ⟨rfl, hb'⟩
          replace p := bel_call p hb'
          clear hb'
          go_wp2_with fail
          refine (CS.out _ _).mono ?_
          rintro e v ⟨rfl, rfl⟩
          go_wp2_with fail
          refine (S52.out _).mono ?_
          rintro e v ⟨rfl, rfl⟩
          go_wp2_with fail
          refine (S52.out _).mono ?_
          rintro e v ⟨rfl, rfl⟩
          go_wp2_with fail
          refine (S63.out _).mono ?_
          rintro e v ⟨rfl, rfl⟩
          go_wp2_with fail
          refine (S63.out _).mono ?_
          rintro e v ⟨rfl, rfl⟩
          go_wp2_with fail
          go_ret
          exact ⟨rfl, (by repeat' (first | with_reducible exact Below.refl _ _ | with_reducible assumption | with_reducible refine bel_drew ?_ | with_reducible refine bel_alloc ?_ _ | with_reducible refine bel_set ?_ ?_ _ | with_reducible refine bel_call ?_ (by assumption) | (dsimp only; omega) | (simp; done) | (simp; omega)))⟩
        · have ht : floatOfInt .f64 (Fl.whole b) = b := by
            by_cases i5 : 1086 ≤ ex b
            · have e : b = 14114281232179134464 := by
                have h5 := Fl.rung_ex (b := b)
                unfold Fl.rung at kb h5
                omega
              rw [e]
              decide +kernel
            · exact of_whole_far hb i3 (by omega)
          rw [ht] at CO
          rw [decide_eq_false i4] at g4
          have hl := geq_num 24 hb hb hn hn
          rw [decide_eq_true (Int.le_refl _)] at hl
          have hq := eql_self 24 hb
          rw [hn] at hq
          have CW := Lib.hid cw
          clear cf cw hn hb k52 k52' k63 k0 hnn i1 i2 fin kb i3 hr hp gx i4 hfb hg l0 ht
          generalize Fl.whole b = W at *
          go_enter Try.func8, Try.ntmps8
          go_wp2_with fail
          refine (C1.out _).mono ?_
          rintro e v ⟨rfl, hb'⟩
          replace p := bel_call p hb'
          clear hb'
          go_wp2_with fail
          refine (CF.out _).mono ?_
          rintro e v ⟨rfl, hb'⟩
          replace p := bel_call p hb'
          clear hb'
          go_wp2_with fail
          refine (CW.out _).mono ?_
          rintro e v ⟨rfl, rfl⟩
          go_wp2_with fail
          refine (CF.out _).mono ?_
          rintro e v ⟨rfl, hb'⟩
          replace p := bel_call p hb'
          clear hb'
          go_wp2_with fail
          refine (CS.out _ _).mono ?_
          rintro e v ⟨rfl, rfl⟩
          go_wp2_with fail
          refine (S52.out _).mono ?_
          rintro e v ⟨rfl, rfl⟩
          go_wp2_with fail
          refine (S52.out _).mono ?_
          rintro e v ⟨rfl, rfl⟩
          go_wp2_with fail
          refine (S63.out _).mono ?_
          rintro e v ⟨rfl, rfl⟩
          go_wp2_with fail
          refine (S63.out _).mono ?_
          rintro e v ⟨rfl, rfl⟩
          go_wp2_with fail
          refine (CO.out _).mono ?_
          rintro e v ⟨rfl, rfl⟩
          go_wp2_with fail
          go_ret
          exact ⟨rfl, (by repeat' (first | with_reducible exact Below.refl _ _ | with_reducible assumption | with_reducible refine bel_drew ?_ | with_reducible refine bel_alloc ?_ _ | with_reducible refine bel_set ?_ ?_ _ | with_reducible refine bel_call ?_ (by assumption) | (dsimp only; omega) | (simp; done) | (simp; omega)))⟩
    have he : ex b < 1075 := by omega
    have hr : Fl.rung b < 1075 * 2 ^ 52 := by unfold Fl.ex at he; unfold Fl.rung; omega
    have kr : -4841369599423283200 < key b ∧ key b < 4841369599423283200 := by rw [kb]; split <;> omega
    rw [decide_eq_true (by omega)] at g1
    rw [decide_eq_true (by omega)] at g2
    rw [decide_eq_false (fun h => absurd h.2 (by omega))] at g3
    rw [decide_eq_false (by omega)] at g4
    have hfn := floor_near hb i2 he
    obtain ⟨w1, w2⟩ := Fl.whole_floor hb he
    have CO := Lib.hid (fun w => of_any (Fl.whole b) w)
    have CW := Lib.hid cw
    have ti : ∀ n : Int, floatOfInt .f64 n < 2 ^ 64 := Fl.ofInt_lt
    have tn : ∀ n : Int, nan (floatOfInt .f64 n) = false := Fl.nan_ofInt
    rcases w2 with ⟨s1, s2, s3, s4, s5⟩ | ⟨s1, s2, s3, s4, s5⟩
    · rw [← s4] at hfn
      have hff : floor (floor b) = floor b := by rw [hfn]; exact Fl.floor_ofInt (by omega)
      rw [hfn] at hff cf
      have CF := Lib.hid cf
      have cff := fun w => ffloor_any (floatOfInt .f64 (Fl.whole b - 1)) w (ti _)
      rw [hff] at cff
      have CFF := Lib.hid cff
      have v1 := Fl.sval_ofInt (n := Fl.whole b) (by omega)
      have v2 := Fl.sval_ofInt (n := Fl.whole b - 1) (by omega)
      have kt := Fl.key_sval hb (ti (Fl.whole b))
      have kf := Fl.key_sval hb (ti (Fl.whole b - 1))
      rw [v1] at kt
      rw [v2] at kf
      have gf := gtr_num 24 (ti (Fl.whole b - 1)) hb (tn _) hn
      rw [decide_eq_false (fun h => absurd (kf.1 h) (by omega))] at gf
      have had := Fl.add_int (m := Fl.whole b - 1) (n := 1) (by omega) (by decide)
      rw [one_int, Int.sub_add_cancel] at had
      have hsu := Fl.sub_int (m := Fl.whole b) (n := 1) (by omega) (by decide) (by decide)
      rw [one_int] at hsu
      have a1 := fun w => run_float_arith (P := Try.prog) w .add 24 .f64 _ _ _ had
      have a2 := fun w => run_float_arith (P := Try.prog) w .sub 24 .f64 _ _ _ hsu
      have gt := gtr_num 24 (ti (Fl.whole b)) hb (tn _) hn
      have ge := geq_num 24 (ti (Fl.whole b)) hb (tn _) hn
      have eq := eql_num 24 (ti (Fl.whole b)) hb (tn _) hn
      have k1 := kt.2 s2
      rw [decide_eq_true k1] at gt
      rw [decide_eq_true (by omega)] at ge
      rw [decide_eq_false (by omega)] at eq
      have es := eql_self 24 (ti (Fl.whole b - 1))
      rw [tn] at es
      rw [s1] at kb
      simp only [if_true] at kb
      rw [decide_eq_false (by omega)] at g0
      clear cf cw cff hn hb k52 k52' k63 k0 hnn i1 i2 fin kb i3 hr gx he hfn w1 s1 s2 s3 s4 s5 ti tn v1 v2 kt kf had hsu k1 l0 ffl hff kr
      generalize floatOfInt .f64 (Fl.whole b) = t at *
      generalize floatOfInt .f64 (Fl.whole b - 1) = f at *
      generalize Fl.whole b = W at *
      go_enter Try.func8, Try.ntmps8
      go_wp2_with fail
      refine (C1.out _).mono ?_
      rintro e v ⟨rfl, hb'⟩
      replace p := bel_call p hb'
      clear hb'
      go_wp2_with fail
      refine (CF.out _).mono ?_
      rintro e v ⟨rfl, hb'⟩
      replace p := bel_call p hb'
      clear hb'
      go_wp2_with fail
      refine (CW.out _).mono ?_
      rintro e v ⟨rfl, rfl⟩
      go_wp2_with fail
      refine (CFF.out _).mono ?_
      rintro e v ⟨rfl, hb'⟩
      replace p := bel_call p hb'
      clear hb'
      go_wp2_with fail
      refine (CS.out _ _).mono ?_
      rintro e v ⟨rfl, rfl⟩
      go_wp2_with fail
      refine (S52.out _).mono ?_
      rintro e v ⟨rfl, rfl⟩
      go_wp2_with fail
      refine (S52.out _).mono ?_
      rintro e v ⟨rfl, rfl⟩
      go_wp2_with fail
      refine (S63.out _).mono ?_
      rintro e v ⟨rfl, rfl⟩
      go_wp2_with fail
      refine (S63.out _).mono ?_
      rintro e v ⟨rfl, rfl⟩
      go_wp2_with fail
      refine (CO.out _).mono ?_
      rintro e v ⟨rfl, rfl⟩
      go_wp2_with fail
      go_ret
      exact ⟨rfl, (by repeat' (first | with_reducible exact Below.refl _ _ | with_reducible assumption | with_reducible refine bel_drew ?_ | with_reducible refine bel_alloc ?_ _ | with_reducible refine bel_set ?_ ?_ _ | with_reducible refine bel_call ?_ (by assumption) | (dsimp only; omega) | (simp; done) | (simp; omega)))⟩
    · rw [← s5] at hfn
      have hff : floor (floor b) = floor b := by rw [hfn]; exact Fl.floor_ofInt (by omega)
      rw [hfn] at hff cf
      have CF := Lib.hid cf
      have cff := fun w => ffloor_any (floatOfInt .f64 (Fl.whole b)) w (ti _)
      rw [hff] at cff
      have CFF := Lib.hid cff
      have v1 := Fl.sval_ofInt (n := Fl.whole b) (by omega)
      have v2 := Fl.sval_ofInt (n := Fl.whole b + 1) (by omega)
      have kt := Fl.key_sval hb (ti (Fl.whole b))
      have kf := Fl.key_sval hb (ti (Fl.whole b + 1))
      rw [v1] at kt
      rw [v2] at kf
      have gf := gtr_num 24 (ti (Fl.whole b)) hb (tn _) hn
      rw [decide_eq_false (fun h => absurd (kt.1 h) (by omega))] at gf
      have had := Fl.add_int (m := Fl.whole b) (n := 1) (by omega) (by decide)
      rw [one_int] at had
      have a1 := fun w => run_float_arith (P := Try.prog) w .add 24 .f64 _ _ _ had
      have gh := gtr_num 24 (ti (Fl.whole b + 1)) hb (tn _) hn
      rw [decide_eq_true (kf.2 s4)] at gh
      have le := leq_num 24 (ti (Fl.whole b)) hb (tn _) hn
      have kle : key (floatOfInt .f64 (Fl.whole b)) ≤ key b := Int.not_lt.1 (fun h => absurd (kt.1 h) (by omega))
      rw [decide_eq_true kle] at le
      cases hg : Fl.neg b
      · rw [hg] at kb
        simp only [Bool.false_eq_true, if_false] at kb
        rw [decide_eq_true (by omega)] at g0
        clear cf cw cff hn hb k52 k52' k63 k0 hnn i1 i2 fin kb i3 hr gx he hfn w1 s1 s2 s3 s4 s5 ti tn v1 v2 kt kf had l0 ffl hff kr kle hg
        generalize floatOfInt .f64 (Fl.whole b) = t at *
        generalize floatOfInt .f64 (Fl.whole b + 1) = f at *
        generalize Fl.whole b = W at *
        go_enter Try.func8, Try.ntmps8
        go_wp2_with fail
        refine (C1.out _).mono ?_
        rintro e v ⟨rfl, hb'⟩
        replace p := bel_call p hb'
        clear hb'
        go_wp2_with fail
        refine (CF.out _).mono ?_
        rintro e v ⟨rfl, hb'⟩
        replace p := bel_call p hb'
        clear hb'
        go_wp2_with fail
        refine (CW.out _).mono ?_
        rintro e v ⟨rfl, rfl⟩
        go_wp2_with fail
        refine (CFF.out _).mono ?_
        rintro e v ⟨rfl, hb'⟩
        replace p := bel_call p hb'
        clear hb'
        go_wp2_with fail
        refine (CS.out _ _).mono ?_
        rintro e v ⟨rfl, rfl⟩
        go_wp2_with fail
        refine (S52.out _).mono ?_
        rintro e v ⟨rfl, rfl⟩
        go_wp2_with fail
        refine (S52.out _).mono ?_
        rintro e v ⟨rfl, rfl⟩
        go_wp2_with fail
        refine (S63.out _).mono ?_
        rintro e v ⟨rfl, rfl⟩
        go_wp2_with fail
        refine (S63.out _).mono ?_
        rintro e v ⟨rfl, rfl⟩
        go_wp2_with fail
        refine (CO.out _).mono ?_
        rintro e v ⟨rfl, rfl⟩
        go_wp2_with fail
        refine (CS.out _ _).mono ?_
        rintro e v ⟨rfl, rfl⟩
        go_wp2_with fail
        go_ret
        exact ⟨rfl, (by repeat' (first | with_reducible exact Below.refl _ _ | with_reducible assumption | with_reducible refine bel_drew ?_ | with_reducible refine bel_alloc ?_ _ | with_reducible refine bel_set ?_ ?_ _ | with_reducible refine bel_call ?_ (by assumption) | (dsimp only; omega) | (simp; done) | (simp; omega)))⟩
      · rw [hg] at kb
        simp only [if_true] at kb
        rw [decide_eq_false (by omega)] at g0
        have ke := key_eq_sval (ti (Fl.whole b)) hb (v1.trans (s2 hg).1)
        have ge := geq_num 24 (ti (Fl.whole b)) hb (tn _) hn
        have eq := eql_num 24 (ti (Fl.whole b)) hb (tn _) hn
        rw [decide_eq_true (by omega)] at ge
        rw [decide_eq_true ke] at eq
        clear cf cw cff hn hb k52 k52' k63 k0 hnn i1 i2 fin kb i3 hr gx he hfn w1 s1 s2 s3 s4 s5 ti tn v1 v2 kt kf had l0 ffl hff kr kle hg ke
        generalize floatOfInt .f64 (Fl.whole b) = t at *
        generalize floatOfInt .f64 (Fl.whole b + 1) = f at *
        generalize Fl.whole b = W at *
        go_enter Try.func8, Try.ntmps8
        go_wp2_with fail
        refine (C1.out _).mono ?_
        rintro e v ⟨rfl, hb'⟩
        replace p := bel_call p hb'
        clear hb'
        go_wp2_with fail
        refine (CF.out _).mono ?_
        rintro e v ⟨rfl, hb'⟩
        replace p := bel_call p hb'
        clear hb'
        go_wp2_with fail
        refine (CW.out _).mono ?_
        rintro e v ⟨rfl, rfl⟩
        go_wp2_with fail
        refine (CFF.out _).mono ?_
        rintro e v ⟨rfl, hb'⟩
        replace p := bel_call p hb'
        clear hb'
        go_wp2_with fail
        refine (CS.out _ _).mono ?_
        rintro e v ⟨rfl, rfl⟩
        go_wp2_with fail
        refine (S52.out _).mono ?_
        rintro e v ⟨rfl, rfl⟩
        go_wp2_with fail
        refine (S52.out _).mono ?_
        rintro e v ⟨rfl, rfl⟩
        go_wp2_with fail
        refine (S63.out _).mono ?_
        rintro e v ⟨rfl, rfl⟩
        go_wp2_with fail
        refine (S63.out _).mono ?_
        rintro e v ⟨rfl, rfl⟩
        go_wp2_with fail
        refine (CO.out _).mono ?_
        rintro e v ⟨rfl, rfl⟩
        go_wp2_with fail
        go_ret
        exact ⟨rfl, (by repeat' (first | with_reducible exact Below.refl _ _ | with_reducible assumption | with_reducible refine bel_drew ?_ | with_reducible refine bel_alloc ?_ _ | with_reducible refine bel_set ?_ ?_ _ | with_reducible refine bel_call ?_ (by assumption) | (dsimp only; omega) | (simp; done) | (simp; omega)))⟩
end Go.Proofs.Yticlnanekjfdoaa
