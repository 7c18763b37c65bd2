/- WALKS of the references: Whole, Floor. -/
import Derived.Test.YtbckfoldjlgabaaFbitF
namespace Go.Proofs.Ytbckfoldjlgabaa
open Go.RowKit
open Fl (nan key canon ex fr)

set_option maxHeartbeats 1000000 in
set_option maxRecDepth 100000 in
theorem rwhole_any (b : Nat) (w : World) (hb : b < 2 ^ 64) :
    Calls Try.prog 82 #[.float .f64 b] w fun e w' => e = .returned (.int .i64 (Fl.whole b)) ∧ w = w' := by
  have C1 := Lib.hid (fun w => parts_any b w hb)
  have C2 := Lib.hid (fun w => rbits_any b w)
  have c3 := fun w => class_any b w hb
  have hc := Fl.cls_nan b
  unfold Fl.whole
  cases hn : nan b with
  | true =>
    have h5 : Fl.cls b = 5 := by rw [hn] at hc; exact beq_iff_eq.1 hc
    rw [h5] at c3
    have C3 := Lib.hid c3
    clear c3 hc h5 hn hb
    generalize ex b = E at *
    generalize fr b = F at *
    go_enter Try.func82, Try.ntmps82
    go_wp2_with fail
    refine (C1.out _).mono ?_
    rintro e w' ⟨rfl, rfl⟩
    go_wp2_with fail
    refine (C2.out _).mono ?_
    rintro e w' ⟨rfl, rfl⟩
    go_wp2_with fail
    refine (C3.out _).mono ?_
    rintro e w' ⟨rfl, rfl⟩
    go_wp2_with fail
    go_ret
    exact ⟨rfl, rfl⟩
  | false =>
    rw [hn] at hc
    simp only [Bool.false_eq_true, if_false]
    have hF : fr b < 2 ^ 52 := by unfold Fl.fr; omega
    have hE : ex b < 2048 := by unfold Fl.ex; omega
    by_cases g1 : 1086 ≤ ex b
    · rw [if_pos g1]
      by_cases g2 : 2 ^ 63 ≤ b
      all_goals
        first
          | rw [if_pos g2]
          | rw [if_neg g2]
        have g3 : (9223372036854775808 ≤ (b : Int)) ∨ (b : Int) < 9223372036854775808 := by omega
        first
          | (have g4 : 9223372036854775808 ≤ (b : Int) := by omega)
          | (have g4 : (b : Int) ≤ 9223372036854775807 := by omega)
        have C3 := Lib.hid c3
        have g6 : ¬ (ex b : Int) < 1023 := by omega
        have g7 : 1086 ≤ (ex b : Int) := by omega
        clear c3 hn hb hF g2 g3 g1 hE
        generalize Fl.cls b = c at *
        generalize (ex b : Int) = E at *
        generalize (fr b : Int) = F at *
        generalize (b : Int) = B at *
        go_enter Try.func82, Try.ntmps82
        go_wp2_with fail
        refine (C1.out _).mono ?_
        rintro e w' ⟨rfl, rfl⟩
        go_wp2_with fail
        refine (C2.out _).mono ?_
        rintro e w' ⟨rfl, rfl⟩
        go_wp2_with fail
        refine (C3.out _).mono ?_
        rintro e w' ⟨rfl, rfl⟩
        go_wp2_with fail
        go_ret
        exact ⟨rfl, rfl⟩
    · rw [if_neg g1]
      have hw := Fl.whM_le (b := b) (by omega)
      unfold Fl.sg
      by_cases g5 : ex b < 1023
      · have hz : Fl.whM b = 0 := by unfold Fl.whM; rw [if_pos g5]
        rw [hz]
        have C3 := Lib.hid c3
        clear c3 hn hb hF hw hz
        have hs : (if 2 ^ 63 ≤ b then -((0 : Nat) : Int) else ((0 : Nat) : Int)) = 0 := by split <;> rfl
        rw [hs]
        generalize Fl.cls b = c at *
        have g7 : (ex b : Int) < 1023 := by omega
        clear g1 g5 hE
        generalize (ex b : Int) = E at *
        generalize (fr b : Int) = F at *
        go_enter Try.func82, Try.ntmps82
        go_wp2_with fail
        refine (C1.out _).mono ?_
        rintro e w' ⟨rfl, rfl⟩
        go_wp2_with fail
        refine (C2.out _).mono ?_
        rintro e w' ⟨rfl, rfl⟩
        go_wp2_with fail
        refine (C3.out _).mono ?_
        rintro e w' ⟨rfl, rfl⟩
        go_wp2_with fail
        go_ret
        exact ⟨rfl, rfl⟩
      · have C3 := Lib.hid c3
        generalize hN : Fl.whM b = N at *
        generalize Fl.cls b = c at *
        have g7 : ¬ (ex b : Int) < 1023 := by omega
        have g8 : (ex b : Int) < 1086 := by omega
        have HB := Lib.hid (And.intro hw hF)
        by_cases g2 : 2 ^ 63 ≤ b
        · rw [if_pos g2]
          have g4 : 9223372036854775808 ≤ (b : Int) := by omega
          clear c3 hn hb hw hF
          by_cases g6 : 1075 ≤ ex b
          · have HN : Hid (N = (2 ^ 52 + fr b) * 2 ^ (ex b - 1075)) := Lib.hid (by rw [← hN]; unfold Fl.whM; rw [if_neg g5, if_pos g6])
            clear hN
            go_enter Try.func82, Try.ntmps82
            go_wp2_with fail
            refine (C1.out _).mono ?_
            rintro e w' ⟨rfl, rfl⟩
            go_wp2_with fail
            refine (C2.out _).mono ?_
            rintro e w' ⟨rfl, rfl⟩
            go_wp2_with fail
            refine (C3.out _).mono ?_
            rintro e w' ⟨rfl, rfl⟩
            go_wp2_with fail
            go_ret
            refine ⟨ret_int ?_, rfl⟩
            have e0 : IntKind.u64.wrap ((fr b : Int) + 4503599627370496) = ((2 ^ 52 + fr b : Nat) : Int) := by
              have h2 := HB.out.2
              rw [IntKind.wrap_u64]
              omega
            have e : ((2 ^ 52 + fr b : Nat) : Int) * 2 ^ (ex b - 1075) = ((N : Nat) : Int) := by
              rw [HN.out]; simp
            rw [e0, e]
            have := HB.out.1
            rw [IntKind.wrap_u64]
            unfold wrap64
            omega
          · have HN : Hid (N = (2 ^ 52 + fr b) / 2 ^ (1075 - ex b)) := Lib.hid (by rw [← hN]; unfold Fl.whM; rw [if_neg g5, if_neg g6])
            clear hN
            go_enter Try.func82, Try.ntmps82
            go_wp2_with fail
            refine (C1.out _).mono ?_
            rintro e w' ⟨rfl, rfl⟩
            go_wp2_with fail
            refine (C2.out _).mono ?_
            rintro e w' ⟨rfl, rfl⟩
            go_wp2_with fail
            refine (C3.out _).mono ?_
            rintro e w' ⟨rfl, rfl⟩
            go_wp2_with fail
            go_ret
            refine ⟨ret_int ?_, rfl⟩
            have e : (IntKind.u64.wrap ((fr b : Int) + 4503599627370496) / 2 ^ (1075 - ex b)) = ((N : Nat) : Int) := by
              have h2 := HB.out.2
              rw [HN.out, IntKind.wrap_u64, show ((fr b : Int) + 4503599627370496) % 18446744073709551616 = ((2 ^ 52 + fr b : Nat) : Int) by omega]
              simp
            rw [e]
            have := HB.out.1
            unfold wrap64
            omega
        · rw [if_neg g2]
          have g4 : (b : Int) ≤ 9223372036854775807 := by omega
          clear c3 hn hb hw hF
          generalize (b : Int) = B at *
          by_cases g6 : 1075 ≤ ex b
          · have HN : Hid (N = (2 ^ 52 + fr b) * 2 ^ (ex b - 1075)) := Lib.hid (by rw [← hN]; unfold Fl.whM; rw [if_neg g5, if_pos g6])
            clear hN
            go_enter Try.func82, Try.ntmps82
            go_wp2_with fail
            refine (C1.out _).mono ?_
            rintro e w' ⟨rfl, rfl⟩
            go_wp2_with fail
            refine (C2.out _).mono ?_
            rintro e w' ⟨rfl, rfl⟩
            go_wp2_with fail
            refine (C3.out _).mono ?_
            rintro e w' ⟨rfl, rfl⟩
            go_wp2_with fail
            go_ret
            refine ⟨ret_int ?_, rfl⟩
            have e0 : IntKind.u64.wrap ((fr b : Int) + 4503599627370496) = ((2 ^ 52 + fr b : Nat) : Int) := by
              have h2 := HB.out.2
              rw [IntKind.wrap_u64]
              omega
            have e : ((2 ^ 52 + fr b : Nat) : Int) * 2 ^ (ex b - 1075) = ((N : Nat) : Int) := by
              rw [HN.out]; simp
            rw [e0, e]
            have := HB.out.1
            rw [IntKind.wrap_u64]
            unfold wrap64
            omega
          · have HN : Hid (N = (2 ^ 52 + fr b) / 2 ^ (1075 - ex b)) := Lib.hid (by rw [← hN]; unfold Fl.whM; rw [if_neg g5, if_neg g6])
            clear hN
            go_enter Try.func82, Try.ntmps82
            go_wp2_with fail
            refine (C1.out _).mono ?_
            rintro e w' ⟨rfl, rfl⟩
            go_wp2_with fail
            refine (C2.out _).mono ?_
            rintro e w' ⟨rfl, rfl⟩
            go_wp2_with fail
            refine (C3.out _).mono ?_
            rintro e w' ⟨rfl, rfl⟩
            go_wp2_with fail
            go_ret
            refine ⟨ret_int ?_, rfl⟩
            have e : (IntKind.u64.wrap ((fr b : Int) + 4503599627370496) / 2 ^ (1075 - ex b)) = ((N : Nat) : Int) := by
              have h2 := HB.out.2
              rw [HN.out, IntKind.wrap_u64, show ((fr b : Int) + 4503599627370496) % 18446744073709551616 = ((2 ^ 52 + fr b : Nat) : Int) by omega]
              simp
            rw [e]
            have := HB.out.1
            unfold wrap64
            omega
end Go.Proofs.Ytbckfoldjlgabaa
