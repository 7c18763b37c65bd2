/- WALKS: the reference's Scale. -/
import Derived.Test.YtbckfoldjlgabaaRefF
import Derived.Test.YtbckfoldjlgabaaLaw01Two
namespace Go.Proofs.Ytbckfoldjlgabaa
open Go.RowKit
open Fl (nan key canon ex fr)
theorem ret_float {k : FloatKind} {a b : Nat} (h : a = b) : Ending.returned (.float k a) = .returned (.float k b) := by rw [h]
theorem word_sum {b : Nat} : ∀ r, Ieee.double.word (Fl.neg b) r = (if 2 ^ 63 ≤ b then 2 ^ 63 else 0 : Nat) + r := fun r => by
  unfold Ieee.Format.word Fl.neg
  simp only [Fl.sw, decide_eq_true_eq]
  split <;> omega
set_option maxHeartbeats 400000 in
theorem rfrom_int (n : Int) (w : World) :
    Calls Try.prog 77 #[.int .u64 n] w fun e w' => e = .returned (.float .f64 n.toNat) ∧ w = w' := by
  go_enter Try.func77, Try.ntmps77
  go_wp2
  go_ret
  exact ⟨rfl, rfl⟩
theorem toNat_sum (a b : Nat) : ((a : Int) + b).toNat = a + b := by omega
theorem toNat_sum1 (a b : Nat) : ((a : Int) + ((b : Int) + 1)).toNat = a + (b + 1) := by omega
theorem rne_far {M D : Nat} (h : M < 2 ^ 53) (hD : 54 ≤ D) : Fl.rne M D = 0 := by
  have h2 : 2 ^ 54 ≤ 2 ^ D := Nat.pow_le_pow_right (by decide) hD
  unfold Fl.rne
  rw [Nat.div_eq_of_lt (by omega), Nat.mod_eq_of_lt (by omega), if_neg (by omega)]
/-- the parts of a shift to the right, as the machine makes them -/
theorem shift_parts {M D : Nat} (hM : M < 2 ^ 53) (h1 : 1 ≤ D) (h2 : D ≤ 54) : ∃ q p r h : Nat,
    (M : Int) / 2 ^ D = (q : Int) ∧ (q : Int) * 2 ^ D = (p : Int) ∧ (M : Int) - (p : Int) = (r : Int) ∧ IntKind.u64.wrap (2 ^ (D - 1)) = (h : Int) ∧ (q : Int) ≤ 9007199254740992 ∧ (p : Int) ≤ (M : Int) ∧
    (((h : Int) < r ∧ Fl.rne M D = q + 1) ∨ ((h : Int) = r ∧ ((q : Int) % 2 == 1) = true ∧ Fl.rne M D = q + 1) ∨ ((h : Int) = r ∧ ((q : Int) % 2 == 1) = false ∧ Fl.rne M D = q) ∨ ((r : Int) < h ∧ Fl.rne M D = q)) := by
  have hp : 2 ^ D = 2 * 2 ^ (D - 1) := by rw [← Nat.pow_succ']; congr 1; omega
  have hh : 2 ^ (D - 1) ≤ 2 ^ 53 := Nat.pow_le_pow_right (by decide) (by omega)
  have hd := Nat.div_add_mod M (2 ^ D)
  have hle := Nat.div_le_self M (2 ^ D)
  refine ⟨M / 2 ^ D, 2 ^ D * (M / 2 ^ D), M % 2 ^ D, 2 ^ (D - 1), by simp, ?_, by omega, ?_, by omega, by omega, ?_⟩
  · rw [Nat.mul_comm, Int.natCast_mul]; simp
  · rw [IntKind.wrap_u64]
    have e : ((2 : Int) ^ (D - 1)) = ((2 ^ (D - 1) : Nat) : Int) := by simp
    rw [e]
    omega
  · have hm : ((M / 2 ^ D : Nat) : Int) % 2 = ((M / 2 ^ D % 2 : Nat) : Int) := by simp
    rw [hm]
    unfold Fl.rne
    rw [hp] at hd ⊢
    generalize M / (2 * 2 ^ (D - 1)) = q at *
    generalize M % (2 * 2 ^ (D - 1)) = r at *
    generalize 2 ^ (D - 1) = h at *
    rcases Nat.lt_trichotomy h r with l | l | l
    · exact .inl ⟨by omega, by rw [if_pos (.inl (by omega))]⟩
    · by_cases o : q % 2 = 1
      · exact .inr (.inl ⟨by omega, by rw [o]; rfl, by rw [if_pos (.inr ⟨by omega, o⟩)]⟩)
      · have o' : q % 2 = 0 := by omega
        exact .inr (.inr (.inl ⟨by omega, by rw [o']; rfl, by rw [if_neg (by omega)]; rfl⟩))
    · exact .inr (.inr (.inr ⟨by omega, by rw [if_neg (by omega)]; rfl⟩))
set_option maxHeartbeats 1000000 in
set_option maxRecDepth 100000 in
theorem rscale_num (b : Nat) (n m : Int) (w : World) (hb : b < 2 ^ 64) (h0 : Fl.rung b ≠ 0) (hi : Fl.rung b < 2047 * 2 ^ 52) (hm : (5000 < n ∧ m = 5000) ∨ (n < -5000 ∧ m = -5000) ∨ (-5000 ≤ n ∧ n ≤ 5000 ∧ m = n)) :
    Calls Try.prog 81 #[.float .f64 b, .int .i64 n] w fun e w' => e = .returned (.float .f64 (Ieee.double.word (Fl.neg b) (Fl.scr (Fl.nM b) (Fl.nE b + m)))) ∧ w = w' := by
  have c1 := fun w => class_any b w hb
  have C2 := Lib.hid (fun w => parts_any b w hb)
  have CB := Lib.hid (fun w => rbits_any b w)
  have CF := Lib.hid rfrom_int
  have hM := Fl.nM_bounds h0
  have hEr : -51 ≤ Fl.nE b ∧ Fl.nE b ≤ 2046 := by unfold Fl.nE; split <;> omega
  obtain ⟨X, i4, hX⟩ : ∃ X, wrap64 (Fl.nE b + m) = X ∧ X = Fl.nE b + m := ⟨_, by unfold wrap64; omega, rfl⟩
  rw [← hX]
  have hXl : -6000 ≤ X := by omega
  clear hX
  have HW := Lib.hid (word_sum (b := b))
  obtain ⟨s, hs0, hs1⟩ : ∃ s : Nat, s = (if 2 ^ 63 ≤ b then 2 ^ 63 else 0 : Nat) ∧ (b : Int) / 9223372036854775808 * 9223372036854775808 = (s : Int) := ⟨_, rfl, by split <;> omega⟩
  have hs2 : (s : Int) ≤ 9223372036854775808 := by rw [hs0]; split <;> omega
  rw [← hs0] at HW
  have HS := Lib.hid hs0
  clear hs0
  by_cases hs : 2 ^ 52 ≤ Fl.rung b
  · have h3 : Fl.cls b = 3 := (Fl.cls3 b).2 ⟨hs, hi⟩
    rw [h3] at c1
    have C1 := Lib.hid c1
    have hE : (ex b : Int) = Fl.nE b := by unfold Fl.nE; rw [if_neg (by omega), Fl.rung_ex]
    have hMv : (fr b : Int) + 4503599627370496 = (Fl.nM b : Int) := by unfold Fl.nM; rw [if_neg (by omega), Fl.rung_fr]; omega
    have hF : fr b < 2 ^ 52 := by unfold Fl.fr; omega
    rw [hE] at C2
    generalize Fl.nM b = M at *
    generalize Fl.nE b = E at *
    generalize fr b = F at *
    have HE := Lib.hid hEr
    clear hEr
    clear c1 h3 h0 hi hs hE
    rcases hm with ⟨g1, rfl⟩ | ⟨g1, rfl⟩ | ⟨g1, g2, rfl⟩
    all_goals
      go_enter Try.func81, Try.ntmps81
      go_wp2_with fail
      refine (C1.out _).mono ?_
      rintro e w' ⟨rfl, rfl⟩
      go_wp2_with fail
      refine (C2.out _).mono ?_
      rintro e w' ⟨rfl, rfl⟩
      by_cases a1 : 2047 ≤ X
      · have hr : Fl.scr M X = 2047 * 2 ^ 52 := by unfold Fl.scr; rw [if_pos a1]
        go_wp2_with fail
        refine (CB.out _).mono ?_
        rintro e w' ⟨rfl, rfl⟩
        go_wp2_with fail
        refine (CF.out _ _).mono ?_
        rintro e w' ⟨rfl, rfl⟩
        go_wp2_with fail
        go_ret
        refine ⟨ret_float ?_, rfl⟩
        rw [hr, HW.out]
        omega
      by_cases a2 : 1 ≤ X
      · have hr : Fl.scr M X = (X - 1).toNat * 2 ^ 52 + M := by unfold Fl.scr; rw [if_neg a1, if_pos a2]
        go_wp2_with fail
        refine (CB.out _).mono ?_
        rintro e w' ⟨rfl, rfl⟩
        go_wp2_with fail
        refine (CF.out _ _).mono ?_
        rintro e w' ⟨rfl, rfl⟩
        go_wp2_with fail
        go_ret
        refine ⟨ret_float ?_, rfl⟩
        rw [hr, HW.out]
        omega
      obtain ⟨D, hD⟩ : ∃ D : Nat, 1 - X = (D : Int) := ⟨(1 - X).toNat, by omega⟩
      have HR : Hid (Fl.scr M X = Fl.rne M D) := Lib.hid (by unfold Fl.scr; rw [if_neg a1, if_neg a2, hD, Int.toNat_natCast])
      have A1 := Lib.hid a1
      have A2 : X < 1 := by omega
      clear a1 a2
      by_cases a3 : X < -53
      · have HD := Lib.hid hD
        clear hD
        go_wp2_with fail
        refine (CB.out _).mono ?_
        rintro e w' ⟨rfl, rfl⟩
        go_wp2_with fail
        refine (CF.out _ _).mono ?_
        rintro e w' ⟨rfl, rfl⟩
        go_wp2_with fail
        go_ret
        refine ⟨ret_float ?_, rfl⟩
        rw [HR.out, HW.out, rne_far hM.2 (by have := HD.out; omega)]
        omega
      · have hD1 : 1 ≤ D := by omega
        have hD2 : D ≤ 54 := by omega
        obtain ⟨q, p, r, h, e1, e2, e3, e4, e5, e6, HQ⟩ := shift_parts hM.2 hD1 hD2
        rcases HQ with ⟨l1, RN⟩ | ⟨l1, l2, RN⟩ | ⟨l1, l2, RN⟩ | ⟨l1, RN⟩
        all_goals
          have RN := Lib.hid RN
          clear hD1 hD2
          have l3 : (D : Int) ≤ 54 := by omega
          go_wp2_with fail
          refine (CB.out _).mono ?_
          rintro e w' ⟨rfl, rfl⟩
          go_wp2_with fail
          refine (CF.out _ _).mono ?_
          rintro e w' ⟨rfl, rfl⟩
          go_wp2_with fail
          go_ret
          refine ⟨ret_float ?_, rfl⟩
          rw [HR.out, RN.out, HW.out]
          first
            | exact toNat_sum _ _
            | exact toNat_sum1 _ _

  · have h2 : Fl.cls b = 2 := by
      have h := Fl.cls_cases b
      unfold Fl.rung at h0 hs hi
      unfold Fl.ex Fl.fr at h
      omega
    rw [h2] at c1
    have C1 := Lib.hid c1
    have hE : ex b = 0 := by unfold Fl.ex; unfold Fl.rung at hs; omega
    have hF : fr b = Fl.rung b := by unfold Fl.fr; unfold Fl.rung at hs ⊢; omega
    have hl : (Fl.rung b).log2 < 52 := (Nat.log2_lt h0).2 (by omega)
    obtain ⟨k, hk, hE2, hM2⟩ : ∃ k : Nat, k ≤ 52 ∧ Fl.nE b = 1 - (k : Int) ∧ Fl.nM b = Fl.rung b * 2 ^ k := ⟨52 - (Fl.rung b).log2, by omega, by unfold Fl.nE; rw [if_pos (by omega)], by unfold Fl.nM; rw [if_pos (by omega)]⟩
    have hlow : ∀ j : Nat, j < k → Fl.rung b * 2 ^ j < 4503599627370496 := fun j hj => by
      obtain ⟨d, rfl⟩ : ∃ d, k = j + 1 + d := ⟨k - j - 1, by omega⟩
      have h1 := hM.2
      rw [hM2, Nat.pow_add, Nat.pow_succ, ← Nat.mul_assoc, ← Nat.mul_assoc] at h1
      have h3 := Nat.le_mul_of_pos_right (Fl.rung b * 2 ^ j * 2) (Nat.two_pow_pos d)
      omega
    rw [hE, hF] at C2
    generalize Fl.rung b = r at *
    generalize Fl.nM b = M at *
    generalize Fl.nE b = E at *
    have HL := Lib.hid hlow
    have HE := Lib.hid hEr
    have HM2 := Lib.hid hM2
    have HE2 := Lib.hid hE2
    clear c1 h2 h0 hi hs hE hF hl hlow hEr hM2 hE2
    rcases hm with ⟨g1, rfl⟩ | ⟨g1, rfl⟩ | ⟨g1, g2, rfl⟩
    all_goals
      go_enter Try.func81, Try.ntmps81
      go_wp2_with fail
      refine (C1.out _).mono ?_
      rintro e w' ⟨rfl, rfl⟩
      go_wp2_with fail
      refine (C2.out _).mono ?_
      rintro e w' ⟨rfl, rfl⟩
      go_wp2_with fail
      go_loopg [6, 7] k (fun g s6 s7 wr => ∃ j : Nat, j ≤ k ∧ g = k - j ∧ s6 = .int .i64 (1 - (j : Int)) ∧ s7 = .int .u64 ((r * 2 ^ j : Nat) : Int) ∧ wr = w)
      case atStart => exact ⟨0, Nat.zero_le _, rfl, rfl, (by simp), rfl⟩
      case round =>
        obtain ⟨j, hj, rfl, rfl, rfl, rfl⟩ := hrel
        by_cases hlt : j < k
        · have z1 := HL.out j hlt
          have z2 : (r * 2 ^ j) * 2 = r * 2 ^ (j + 1) := by rw [Nat.pow_succ, Nat.mul_assoc]
          generalize r * 2 ^ j = y at *
          have z3 : (y : Int) < 4503599627370496 := by omega
          go_wp2_with fail
          go_roundg (k - (j + 1))
          case measure => omega
          case rel => exact ⟨j + 1, hlt, rfl, (by first | rfl | (congr 1; omega)), (by first | rfl | (congr 1; omega)), rfl⟩
        · obtain rfl : j = k := by omega
          rw [← HM2.out, ← HE2.out]
          have z4 : ¬ (M : Int) < 4503599627370496 := by omega
          clear HL HM2 HE2 hlt
          by_cases a1 : 2047 ≤ X
          · have hr : Fl.scr M X = 2047 * 2 ^ 52 := by unfold Fl.scr; rw [if_pos a1]
            go_wp2_with fail
            refine (CB.out _).mono ?_
            rintro e w' ⟨rfl, rfl⟩
            go_wp2_with fail
            refine (CF.out _ _).mono ?_
            rintro e w' ⟨rfl, rfl⟩
            go_wp2_with fail
            go_ret
            refine ⟨ret_float ?_, rfl⟩
            rw [hr, HW.out]
            omega
          by_cases a2 : 1 ≤ X
          · have hr : Fl.scr M X = (X - 1).toNat * 2 ^ 52 + M := by unfold Fl.scr; rw [if_neg a1, if_pos a2]
            go_wp2_with fail
            refine (CB.out _).mono ?_
            rintro e w' ⟨rfl, rfl⟩
            go_wp2_with fail
            refine (CF.out _ _).mono ?_
            rintro e w' ⟨rfl, rfl⟩
            go_wp2_with fail
            go_ret
            refine ⟨ret_float ?_, rfl⟩
            rw [hr, HW.out]
            omega
          obtain ⟨D, hD⟩ : ∃ D : Nat, 1 - X = (D : Int) := ⟨(1 - X).toNat, by omega⟩
          have HR : Hid (Fl.scr M X = Fl.rne M D) := Lib.hid (by unfold Fl.scr; rw [if_neg a1, if_neg a2, hD, Int.toNat_natCast])
          have A1 := Lib.hid a1
          have A2 : X < 1 := by omega
          clear a1 a2
          by_cases a3 : X < -53
          · have HD := Lib.hid hD
            clear hD
            go_wp2_with fail
            refine (CB.out _).mono ?_
            rintro e w' ⟨rfl, rfl⟩
            go_wp2_with fail
            refine (CF.out _ _).mono ?_
            rintro e w' ⟨rfl, rfl⟩
            go_wp2_with fail
            go_ret
            refine ⟨ret_float ?_, rfl⟩
            rw [HR.out, HW.out, rne_far hM.2 (by have := HD.out; omega)]
            omega
          · have hD1 : 1 ≤ D := by omega
            have hD2 : D ≤ 54 := by omega
            obtain ⟨q, p, r, h, e1, e2, e3, e4, e5, e6, HQ⟩ := shift_parts hM.2 hD1 hD2
            rcases HQ with ⟨l1, RN⟩ | ⟨l1, l2, RN⟩ | ⟨l1, l2, RN⟩ | ⟨l1, RN⟩
            all_goals
              have RN := Lib.hid RN
              clear hD1 hD2
              have l3 : (D : Int) ≤ 54 := by omega
              go_wp2_with fail
              refine (CB.out _).mono ?_
              rintro e w' ⟨rfl, rfl⟩
              go_wp2_with fail
              refine (CF.out _ _).mono ?_
              rintro e w' ⟨rfl, rfl⟩
              go_wp2_with fail
              go_ret
              refine ⟨ret_float ?_, rfl⟩
              rw [HR.out, RN.out, HW.out]
              first
                | exact toNat_sum _ _
                | exact toNat_sum1 _ _

set_option maxHeartbeats 1000000 in
theorem rscale_any (b : Nat) (n : Int) (w : World) (hb : b < 2 ^ 64) :
    Calls Try.prog 81 #[.float .f64 b, .int .i64 n] w fun e w' => e = .returned (.float .f64 (Fl.scl b n)) ∧ w = w' := by
  by_cases h : Fl.rung b = 0 ∨ 2047 * 2 ^ 52 ≤ Fl.rung b
  · unfold Fl.scl
    rw [if_pos h]
    have C1 := Lib.hid (fun w => class_any b w hb)
    have C2 := Lib.hid (fun w => rcanon_any b w hb)
    have h1 := Fl.cls_cases b
    have h2 : (Fl.cls b == 2) = false := by
      rw [beq_eq_false_iff_ne]; unfold Fl.rung at h; unfold Fl.ex Fl.fr at h1; omega
    have h3 : (Fl.cls b == 3) = false := by
      rw [beq_eq_false_iff_ne]; unfold Fl.rung at h; unfold Fl.ex Fl.fr at h1; omega
    have h4 : (Fl.cls b != 2) = true := by rw [bne, h2]; rfl
    have h5 : (Fl.cls b != 3) = true := by rw [bne, h3]; rfl
    clear h1 h hb
    generalize Fl.cls b = c at *
    go_enter Try.func81, Try.ntmps81
    go_wp2_with fail
    refine (C1.out _).mono ?_
    rintro e w' ⟨rfl, rfl⟩
    go_wp2_with fail
    refine (C2.out _).mono ?_
    rintro e w' ⟨rfl, rfl⟩
    go_wp2_with fail
    go_ret
    exact ⟨rfl, rfl⟩
  · have e : Fl.scl b n = Ieee.double.word (Fl.neg b) (Fl.scr (Fl.nM b) (Fl.nE b + max (-5000) (min 5000 n))) := by unfold Fl.scl; rw [if_neg h]
    rw [e]
    exact rscale_num b n _ w hb (by omega) (by omega) (by omega)
end Go.Proofs.Ytbckfoldjlgabaa
