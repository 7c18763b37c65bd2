/- WALKS: the reference's Floor; FbitOne. -/
import Derived.Test.YtbckfoldjlgabaaRefE
namespace Go.Proofs.Ytbckfoldjlgabaa
open Go.RowKit
open Fl (nan key canon ex fr)

theorem one_int : floatOfInt .f64 1 = 4607182418800017408 := by decide +kernel
theorem flr_is (b : Nat) : flr b = Ieee.double.write ((Ieee.double.read b).integral .down) := rfl
theorem floor_far {b : Nat} (hb : b < 2 ^ 64) (h : Fl.rung b = 0 ∨ 1075 ≤ ex b) : floor b = canon b := by
  unfold floor
  cases hn : nan b with
  | true => rw [if_pos rfl]; unfold Fl.canon; rw [hn]; rfl
  | false =>
    rw [if_neg (by decide), flr_is]
    rcases h with h | h
    · rw [Fl.flr_zero hb h]
    · rw [Fl.flr_far hb hn h]
theorem floor_near {b : Nat} (hb : b < 2 ^ 64) (h0 : Fl.rung b ≠ 0) (h : ex b < 1075) : floor b = floatOfInt .f64 (Fl.sval b / Fl.U) := by
  have hn : nan b = false := by rw [Fl.nan_false]; unfold Fl.ex at h; omega
  unfold floor
  rw [hn, if_neg (by decide), flr_is, Fl.flr_int hb (Fl.fin_of_ex (by omega)) h0]
  exact Fl.canon_num (Fl.nan_ofInt _)
theorem floor_lt {b : Nat} : floor b < 2 ^ 64 := by
  unfold floor
  split
  · decide
  · exact Fl.canon_lt (flr_lt b)
set_option maxHeartbeats 1000000 in
set_option maxRecDepth 100000 in
theorem rfloor_any (b : Nat) (w : World) (hb : b < 2 ^ 64) :
    Calls Try.prog 80 #[.float .f64 b] w fun e w' => e = .returned (.float .f64 (floor b)) ∧ w = w' := by
  have C1 := Lib.hid (fun w => parts_any b w hb)
  have c2 := fun w => class_any b w hb
  have C3 := Lib.hid (fun w => rcanon_any b w hb)
  have C4 := Lib.hid (fun w => rwhole_any b w hb)
  by_cases g1 : Fl.rung b = 0
  · rw [floor_far hb (.inl g1)]
    have h5 : Fl.cls b = 1 := by
      unfold Fl.cls Fl.nan
      unfold Fl.rung at g1
      rw [g1]
      rfl
    rw [h5] at c2
    have C2 := Lib.hid c2
    clear c2 h5 hb g1 C4
    generalize (ex b : Int) = E at *
    generalize (fr b : Int) = F at *
    go_enter Try.func80, Try.ntmps80
    go_wp2_with fail
    refine (C1.out _).mono ?_
    rintro e w' ⟨rfl, rfl⟩
    go_wp2_with fail
    refine (C2.out _).mono ?_
    rintro e w' ⟨rfl, rfl⟩
    go_wp2_with fail
    refine (C3.out _).mono ?_
    rintro e w' ⟨rfl, rfl⟩
    go_wp2_with fail
    go_ret
    exact ⟨rfl, rfl⟩
  have h5 : (Fl.cls b == 1) = false := by
    have := Fl.cls_cases b
    rw [beq_eq_false_iff_ne]
    intro h
    unfold Fl.rung at g1
    unfold Fl.ex Fl.fr at this
    omega
  by_cases g2 : 1075 ≤ ex b
  · rw [floor_far hb (.inr g2)]
    have C2 := Lib.hid c2
    have g3 : 1075 ≤ (ex b : Int) := by omega
    clear c2 hb g1 C4 g2
    generalize Fl.cls b = c at *
    generalize (ex b : Int) = E at *
    generalize (fr b : Int) = F at *
    go_enter Try.func80, Try.ntmps80
    go_wp2_with fail
    refine (C1.out _).mono ?_
    rintro e w' ⟨rfl, rfl⟩
    go_wp2_with fail
    refine (C2.out _).mono ?_
    rintro e w' ⟨rfl, rfl⟩
    go_wp2_with fail
    refine (C3.out _).mono ?_
    rintro e w' ⟨rfl, rfl⟩
    go_wp2_with fail
    go_ret
    exact ⟨rfl, rfl⟩
  have he : ex b < 1075 := by omega
  have hn : nan b = false := by rw [Fl.nan_false]; unfold Fl.ex at he; omega
  rw [floor_near hb g1 he]
  obtain ⟨k1, k2⟩ := Fl.whole_floor hb he
  have g3 : (ex b : Int) < 1075 := by omega
  have C2 := Lib.hid c2
  have hT := Fl.ofInt_lt (Fl.whole b)
  have h6 := gtr_num 64 hT hb (Fl.nan_ofInt _) hn
  have h7 := Fl.key_sval hb hT
  rw [Fl.sval_ofInt (by omega)] at h7
  rcases k2 with ⟨_, m1, _, m2, _⟩ | ⟨m1, _, _, _, m2⟩
  · rw [decide_eq_true (h7.2 m1)] at h6
    have hm := Fl.sub_int (m := Fl.whole b) (n := 1) (by omega) (by decide) (by decide)
    rw [one_int, m2] at hm
    have h8 := fun w => run_float_arith (P := Try.prog) w .sub 64 .f64 _ _ _ hm
    clear c2 g1 g2 hb he h7 m1 m2 hm hT hn k1
    generalize Fl.cls b = c at *
    generalize floatOfInt .f64 (Fl.sval b / Fl.U) = r at *
    generalize Fl.whole b = W at *
    generalize (ex b : Int) = E at *
    generalize (fr b : Int) = F at *
    go_enter Try.func80, Try.ntmps80
    go_wp2_with fail
    refine (C1.out _).mono ?_
    rintro e w' ⟨rfl, rfl⟩
    go_wp2_with fail
    refine (C2.out _).mono ?_
    rintro e w' ⟨rfl, rfl⟩
    go_wp2_with fail
    refine (C4.out _).mono ?_
    rintro e w' ⟨rfl, rfl⟩
    go_wp2_with fail
    go_ret
    exact ⟨rfl, rfl⟩
  · rw [decide_eq_false (fun h => absurd (h7.1 h) (by omega))] at h6
    rw [← m2]
    clear c2 g1 g2 hb he h7 m1 m2 hT hn k1
    generalize Fl.cls b = c at *
    generalize Fl.whole b = W at *
    generalize (ex b : Int) = E at *
    generalize (fr b : Int) = F at *
    go_enter Try.func80, Try.ntmps80
    go_wp2_with fail
    refine (C1.out _).mono ?_
    rintro e w' ⟨rfl, rfl⟩
    go_wp2_with fail
    refine (C2.out _).mono ?_
    rintro e w' ⟨rfl, rfl⟩
    go_wp2_with fail
    refine (C4.out _).mono ?_
    rintro e w' ⟨rfl, rfl⟩
    go_wp2_with fail
    go_ret
    exact ⟨rfl, rfl⟩
end Go.Proofs.Ytbckfoldjlgabaa
