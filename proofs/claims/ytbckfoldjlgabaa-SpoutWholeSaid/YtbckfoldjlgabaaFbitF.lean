/- WALKS of fbit.Scale: ldexp. -/
import Derived.Test.YtbckfoldjlgabaaFbitE
namespace Go.Proofs.Ytbckfoldjlgabaa
open Go.RowKit
open Fl (nan key canon ex fr)

theorem i64_and2047 (n : Int) : bits .and .i64 n 2047 = n % 2048 := by
  have h : (BitVec.ofInt 64 2047).toNat = 2 ^ 11 - 1 := by decide
  have key : (BitVec.ofInt 64 n &&& BitVec.ofInt 64 2047).toNat = (n % ((2 ^ 64 : Nat) : Int)).toNat % 2 ^ 11 := by
    rw [BitVec.toNat_and, BitVec.toNat_ofInt, h, Nat.and_two_pow_sub_one_eq_mod]
  show IntKind.i64.wrap ((BitVec.ofInt 64 n &&& BitVec.ofInt 64 2047).toNat : Nat) = n % 2048
  rw [key, IntKind.wrap_i64]
  omega
theorem eql_zero_nan (t : TypeId) {b : Nat} (hn : nan b = true) : binOp .eql t (.float .f64 b) (.float .f64 0) = pure (.bool false) := by
  rw [binOp_float_cmp_eql]; show pure (Value.bool (Ieee.double.order b 0 == some .eq)) = _; rw [Fl.order_nan_left hn]; rfl
theorem lss_zero (t : TypeId) {b : Nat} (hb : b < 2 ^ 64) (h0 : Fl.rung b ≠ 0) (hn : nan b = false) : binOp .lss t (.float .f64 b) (.float .f64 0) = pure (.bool (Fl.neg b)) := by
  rw [lss_num t hb (by decide) hn (by decide), show key 0 = 0 by decide]
  have e : decide (key b < 0) = Fl.neg b := by
    unfold Fl.neg
    refine decide_eq_decide.2 ?_
    unfold Fl.rung at h0
    unfold Fl.key
    split <;> omega
  rw [e]
theorem inf_pos (w : World) : Calls Try.prog 107 #[.int .i64 1] w fun e w' => e = .returned (.float .f64 (Ieee.double.word false (2047 * 2 ^ 52))) ∧ w = w' := inf_any false w
theorem inf_neg (w : World) : Calls Try.prog 107 #[.int .i64 (-1)] w fun e w' => e = .returned (.float .f64 (Ieee.double.word true (2047 * 2 ^ 52))) ∧ w = w' := inf_any true w
theorem scr_under {M : Nat} (h : M < 2 ^ 53) {e : Int} (he : e < -52) : Fl.scr M e = 0 := by
  unfold Fl.scr
  rw [if_neg (by omega), if_neg (by omega)]
  obtain ⟨d, hd, hd'⟩ : ∃ d, (1 - e).toNat = d ∧ 54 ≤ d := ⟨_, rfl, by omega⟩
  rw [hd]
  have h2 : 2 ^ 54 ≤ 2 ^ d := Nat.pow_le_pow_right (by decide) hd'
  unfold Fl.rne
  rw [Nat.div_eq_of_lt (by omega), Nat.mod_eq_of_lt (by omega), if_neg (by omega)]
def ldx (b : Nat) (n : Int) : Nat := if Fl.rung b = 0 ∨ 2047 * 2 ^ 52 ≤ Fl.rung b then b else Ieee.double.word (Fl.neg b) (Fl.scr (Fl.nM b) (Fl.nE b + n))
set_option maxHeartbeats 1000000 in
theorem ldexp_any (b : Nat) (n : Int) (w : World) (hb : b < 2 ^ 64) (hn : -5000 ≤ n) (hn' : n ≤ 5000) :
    Calls Try.prog 102 #[.float .f64 b, .int .i64 n] w fun e w' => e = .returned (.float .f64 (ldx b n)) ∧ w = w' := by
  unfold ldx
  have c1 := fun w => isInf_any b w hb
  have c2 := fun w => mnan_any b w hb
  by_cases z0 : Fl.rung b = 0 ∨ 2047 * 2 ^ 52 ≤ Fl.rung b
  · rw [if_pos z0]
    cases na : nan b with
    | true =>
      have h1 := eql_zero_nan 64 na
      rw [na] at c2
      have hi : decide (ab b = 9218868437227405312) = false := by rw [Fl.nan_iff] at na; exact decide_eq_false (by unfold ab; omega)
      rw [hi] at c1
      have C1 := Lib.hid c1
      have C2 := Lib.hid c2
      clear c1 c2 z0 na hi hb
      go_enter Try.func102, Try.ntmps102
      go_wp2_with fail
      refine (C1.out _).mono ?_
      rintro e w' ⟨rfl, rfl⟩
      go_wp2_with fail
      refine (C2.out _).mono ?_
      rintro e w' ⟨rfl, rfl⟩
      go_wp2_with fail
      go_ret
      exact ⟨rfl, rfl⟩
    | false =>
      have h1 := eql_zero 64 hb na
      by_cases z1 : ab b = 0
      · rw [decide_eq_true z1] at h1
        clear c1 c2 z0 na hb z1
        go_enter Try.func102, Try.ntmps102
        go_wp2_with fail
        go_ret
        exact ⟨rfl, rfl⟩
      · rw [decide_eq_false z1] at h1
        have hi : decide (ab b = 9218868437227405312) = true := by rw [Fl.nan_false] at na; rw [ab_rung] at z1 ⊢; unfold Fl.rung at z0 z1 ⊢; exact decide_eq_true (by omega)
        rw [hi] at c1
        have C1 := Lib.hid c1
        clear c1 c2 z0 na hb z1 hi
        go_enter Try.func102, Try.ntmps102
        go_wp2_with fail
        refine (C1.out _).mono ?_
        rintro e w' ⟨rfl, rfl⟩
        go_wp2_with fail
        go_ret
        exact ⟨rfl, rfl⟩
  · rw [if_neg z0]
    have na : nan b = false := by rw [Fl.nan_false]; unfold Fl.rung at z0; omega
    have h0 : Fl.rung b ≠ 0 := by omega
    have hi : Fl.rung b < 2047 * 2 ^ 52 := by omega
    have h1 := eql_zero 64 hb na
    rw [decide_eq_false (show ¬ ab b = 0 by rw [ab_rung]; omega)] at h1
    rw [decide_eq_false (show ¬ ab b = 9218868437227405312 by rw [ab_rung]; omega)] at c1
    rw [na] at c2
    have c3 := fun w => normalize_any b w hb h0 hi
    have C1 := Lib.hid c1
    have C2 := Lib.hid c2
    have C3 := Lib.hid c3
    obtain ⟨f1, f2, f3, f4, f5, f6⟩ := nrm_facts hb h0 hi
    have f7 : nsh b = -52 ∨ nsh b = 0 := by unfold nsh; split <;> simp
    have hM := Fl.nM_bounds h0
    clear c1 c2 c3 z0 na hb
    generalize nrm b = c at *
    generalize nsh b = k at *
    have i1 := i64_and2047
    have i2 : (c : Int) / 4503599627370496 % 2048 = (ex c : Int) := by unfold Fl.ex; omega
    have i7 := andNot_exp f1
    have hs : (if 2 ^ 63 ≤ c then 2 ^ 63 else 0 : Nat) = 0 ∨ (if 2 ^ 63 ≤ c then 2 ^ 63 else 0 : Nat) = 2 ^ 63 := by split <;> simp
    have hw : ∀ r, Ieee.double.word (Fl.neg b) r = (if 2 ^ 63 ≤ c then 2 ^ 63 else 0 : Nat) + r := fun r => by
      rw [← f2]
      unfold Ieee.Format.word Fl.neg
      simp only [Fl.sw, decide_eq_true_eq]
      split <;> omega
    have hf : fr c < 2 ^ 52 := by unfold Fl.fr; omega
    have i8 := fun e he => or_exp (s := (if 2 ^ 63 ≤ c then 2 ^ 63 else 0 : Nat)) (m := fr c) (e := e) hs hf he
    have C4 := Lib.hid (fun w => copysign_zero c w f1)
    have h5 := lss_zero 64 f1 (by unfold Fl.rung; unfold Fl.ex at f4; omega) (by rw [Fl.nan_false]; unfold Fl.ex at f5; omega)
    have HW := Lib.hid hw
    have I8 := Lib.hid i8
    generalize (if 2 ^ 63 ≤ c then 2 ^ 63 else 0 : Nat) = s at *
    generalize ex c = E at *
    generalize fr c = F at *
    clear i8 hw h0 hi
    generalize Fl.nM b = M at *
    obtain ⟨P, i3, hP⟩ : ∃ P, wrap64 (n + k) = P ∧ n + k = P := ⟨_, by unfold wrap64; omega, rfl⟩
    obtain ⟨X, i4, hX⟩ : ∃ X, wrap64 (P + ((E : Int) - 1023)) = X ∧ X = P + ((E : Int) - 1023) := ⟨_, by unfold wrap64; omega, rfl⟩
    rw [show Fl.nE b + n = X + 1023 by omega]
    clear hX f3 hP hn hn' f7
    by_cases a1 : X < -1075
    · have hr : Fl.scr M (X + 1023) = 0 := scr_under hM.2 (by omega)
      rw [hr, ← f2]
      clear HW I8
      generalize Ieee.double.word (Fl.neg c) 0 = r at *
      go_enter Try.func102, Try.ntmps102
      go_wp2_with fail
      refine (C1.out _).mono ?_
      rintro e w' ⟨rfl, rfl⟩
      go_wp2_with fail
      refine (C2.out _).mono ?_
      rintro e w' ⟨rfl, rfl⟩
      go_wp2_with fail
      refine (C3.out _).mono ?_
      rintro e w' ⟨rfl, rfl⟩
      go_wp2_with fail
      refine (C4.out _).mono ?_
      rintro e w' ⟨rfl, rfl⟩
      go_wp2_with fail
      go_ret
      exact ⟨rfl, rfl⟩
    by_cases a2 : 1023 < X
    · have hr : Fl.scr M (X + 1023) = 2047 * 2 ^ 52 := by unfold Fl.scr; rw [if_pos (by omega)]
      rw [hr, ← f2]
      cases hg : Fl.neg c
      · have C5 := Lib.hid inf_pos
        rw [hg] at h5
        clear HW I8 hg
        go_enter Try.func102, Try.ntmps102
        go_wp2_with fail
        refine (C1.out _).mono ?_
        rintro e w' ⟨rfl, rfl⟩
        go_wp2_with fail
        refine (C2.out _).mono ?_
        rintro e w' ⟨rfl, rfl⟩
        go_wp2_with fail
        refine (C3.out _).mono ?_
        rintro e w' ⟨rfl, rfl⟩
        go_wp2_with fail
        refine (C5.out _).mono ?_
        rintro e w' ⟨rfl, rfl⟩
        go_wp2_with fail
        go_ret
        exact ⟨rfl, rfl⟩
      · have C5 := Lib.hid inf_neg
        rw [hg] at h5
        clear HW I8 hg
        go_enter Try.func102, Try.ntmps102
        go_wp2_with fail
        refine (C1.out _).mono ?_
        rintro e w' ⟨rfl, rfl⟩
        go_wp2_with fail
        refine (C2.out _).mono ?_
        rintro e w' ⟨rfl, rfl⟩
        go_wp2_with fail
        refine (C3.out _).mono ?_
        rintro e w' ⟨rfl, rfl⟩
        go_wp2_with fail
        refine (C5.out _).mono ?_
        rintro e w' ⟨rfl, rfl⟩
        go_wp2_with fail
        go_ret
        exact ⟨rfl, rfl⟩
    by_cases a3 : X < -1022
    · obtain ⟨Y, hY⟩ : ∃ Y : Nat, X + 1076 = Y := ⟨(X + 1076).toNat, by omega⟩
      have i9 := I8.out Y (by omega)
      rw [Int.natCast_add, Int.natCast_mul, ← hY, show X + 1076 = X + 53 + 1023 by omega] at i9
      have hc := Fl.word_lt' (s := Fl.neg b) (r := Y * 2 ^ 52 + F) (by omega)
      have hg := Fl.rung_word (s := Fl.neg b) (r := Y * 2 ^ 52 + F) (by omega)
      have hn := Fl.neg_word (s := Fl.neg b) (r := Y * 2 ^ 52 + F) (by omega)
      have hm : Ieee.double.mul 4368491638549381120 (Ieee.double.word (Fl.neg b) (Y * 2 ^ 52 + F)) = some (Ieee.double.word (Fl.neg b) (Fl.scr M (X + 1023))) := by
        rw [mul_back53 hc (by rw [hg]; omega) (by rw [hg]; omega), hn]
        unfold Fl.nM Fl.nE
        rw [hg, if_neg (by omega), if_neg (by omega), show 2 ^ 52 + (Y * 2 ^ 52 + F) % 2 ^ 52 = M by omega, show (((Y * 2 ^ 52 + F) / 2 ^ 52 : Nat) : Int) - 53 = X + 1023 by omega]
      rw [HW.out, ← Nat.add_assoc] at hm
      have h6 := fun w => run_float_arith (P := Try.prog) w .mul 64 .f64 _ _ _ hm
      generalize Ieee.double.word (Fl.neg b) (Fl.scr M (X + 1023)) = r at *
      replace i9 : bits .or .u64 ((s : Int) + F) ((X + 53 + 1023) * 4503599627370496) = ((s + Y * 2 ^ 52 + F : Nat) : Int) := i9
      generalize s + Y * 2 ^ 52 + F = c2 at *
      clear HW I8 hc hg hn hm hY
      go_enter Try.func102, Try.ntmps102
      go_wp2_with fail
      refine (C1.out _).mono ?_
      rintro e w' ⟨rfl, rfl⟩
      go_wp2_with fail
      refine (C2.out _).mono ?_
      rintro e w' ⟨rfl, rfl⟩
      go_wp2_with fail
      refine (C3.out _).mono ?_
      rintro e w' ⟨rfl, rfl⟩
      go_wp2_with fail
      go_ret
      exact ⟨rfl, rfl⟩
    · obtain ⟨Y, hY⟩ : ∃ Y : Nat, X + 1023 = Y := ⟨(X + 1023).toNat, by omega⟩
      have i9 := I8.out Y (by omega)
      rw [Int.natCast_add, Int.natCast_mul, ← hY] at i9
      have hc := Fl.word_lt' (s := Fl.neg b) (r := Y * 2 ^ 52 + F) (by omega)
      have hg := Fl.rung_word (s := Fl.neg b) (r := Y * 2 ^ 52 + F) (by omega)
      have hm : Ieee.double.mul 4607182418800017408 (Ieee.double.word (Fl.neg b) (Y * 2 ^ 52 + F)) = some (Ieee.double.word (Fl.neg b) (Fl.scr M (X + 1023))) := by
        rw [mul_one' hc (by rw [hg]; omega) (by rw [hg]; omega)]
        congr 2
        unfold Fl.scr
        rw [if_neg (by omega), if_pos (by omega)]
        omega
      rw [HW.out, ← Nat.add_assoc] at hm
      have h6 := fun w => run_float_arith (P := Try.prog) w .mul 64 .f64 _ _ _ hm
      generalize Ieee.double.word (Fl.neg b) (Fl.scr M (X + 1023)) = r at *
      replace i9 : bits .or .u64 ((s : Int) + F) ((X + 1023) * 4503599627370496) = ((s + Y * 2 ^ 52 + F : Nat) : Int) := i9
      generalize s + Y * 2 ^ 52 + F = c2 at *
      clear HW I8 hc hg hm hY
      go_enter Try.func102, Try.ntmps102
      go_wp2_with fail
      refine (C1.out _).mono ?_
      rintro e w' ⟨rfl, rfl⟩
      go_wp2_with fail
      refine (C2.out _).mono ?_
      rintro e w' ⟨rfl, rfl⟩
      go_wp2_with fail
      refine (C3.out _).mono ?_
      rintro e w' ⟨rfl, rfl⟩
      go_wp2_with fail
      go_ret
      exact ⟨rfl, rfl⟩
theorem ldx_canon (b : Nat) (n : Int) : canon (ldx b (max (-5000) (min 5000 n))) = Fl.scl b n := by
  unfold ldx
  have h := Fl.scl_canon b n
  unfold Fl.scl at h ⊢
  split
  · rfl
  · rename_i h0
    rw [if_neg h0] at h
    exact h
theorem ldx_lt {b : Nat} (hb : b < 2 ^ 64) (n : Int) : ldx b n < 2 ^ 64 := by
  unfold ldx
  split
  · exact hb
  · rename_i h
    have hM := Fl.nM_bounds (b := b) (by omega)
    have := Fl.scr_le hM.2 (Fl.nE b + n)
    exact Fl.word_lt' (by omega)
set_option maxHeartbeats 400000 in
theorem mldexp_any (b : Nat) (n : Int) (w : World) (hb : b < 2 ^ 64) (hn : -5000 ≤ n) (hn' : n ≤ 5000) :
    Calls Try.prog 98 #[.float .f64 b, .int .i64 n] w fun e w' => e = .returned (.float .f64 (ldx b n)) ∧ w = w' := by
  have C1 := Lib.hid (fun w => ldexp_any b n w hb hn hn')
  generalize ldx b n = r at *
  clear hb hn hn'
  go_enter Try.func98, Try.ntmps98
  go_wp2_with fail
  refine (C1.out _).mono ?_
  rintro e w' ⟨rfl, rfl⟩
  go_wp2_with fail
  go_ret
  exact ⟨rfl, rfl⟩
set_option maxHeartbeats 400000 in
theorem fscale_any (b : Nat) (n : Int) (w : World) (hb : b < 2 ^ 64) :
    Calls Try.prog 94 #[.float .f64 b, .int .i64 n] w fun e w' => e = .returned (.float .f64 (Fl.scl b n)) ∧ w = w' := by
  obtain ⟨r, hr, hr2, hr3⟩ : ∃ r, r = ldx b (max (-5000) (min 5000 n)) ∧ canon r = Fl.scl b n ∧ r < 2 ^ 64 := ⟨_, rfl, ldx_canon b n, ldx_lt hb _⟩
  have C1 : Hid (∀ w, Calls Try.prog 98 #[.float .f64 b, .int .i64 (max (-5000) (min 5000 n))] w fun e w' => e = .returned (.float .f64 r) ∧ w = w') := Lib.hid (fun w => by rw [hr]; exact mldexp_any b _ w hb (by omega) (by omega))
  have C2 := Lib.hid (fun w => canon_any r w hr3)
  rw [← hr2]
  clear hr hr2 hr3 hb
  generalize canon r = c at *
  have hm : (n < -5000 ∧ max (-5000) (min 5000 n) = -5000) ∨ (n = -5000 ∧ max (-5000) (min 5000 n) = -5000) ∨ (-5000 < n ∧ n < 5000 ∧ max (-5000) (min 5000 n) = n) ∨ (5000 ≤ n ∧ max (-5000) (min 5000 n) = 5000) := by omega
  rcases hm with ⟨h1, h3⟩ | ⟨h1, h3⟩ | ⟨h1, h2, h3⟩ | ⟨h1, h3⟩
  all_goals
    rw [h3] at C1
    clear h3
    try subst h1
    try (have h4 : n < 5000 := by omega)
    try (have h5 : ¬ -5000 < n := by omega)
    try (have h6 : ¬ n < 5000 := by omega)
    go_enter Try.func94, Try.ntmps94
    go_wp2_with fail
    refine (C1.out _).mono ?_
    rintro e w' ⟨rfl, rfl⟩
    go_wp2_with fail
    refine (C2.out _).mono ?_
    rintro e w' ⟨rfl, rfl⟩
    go_wp2_with fail
    go_ret
    exact ⟨rfl, rfl⟩
end Go.Proofs.Ytbckfoldjlgabaa
