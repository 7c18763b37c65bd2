/- WALKS of fbit: Canon, side, isNaN, Compare. -/
import Derived.Test.YtelofaceadlfmaaDoorRows
import Derived.Test.YtelofaceadlfmaaDoorFloat
import Derived.WalkKit
import Derived.WalkSpells
import Derived.WalkLawsBesides
import Derived.Lib.Hide
namespace Go.Proofs.YtelofaceadlfmaaDoor
open Go.RowKit
open Fl (nan key canon ord least most rank side cmpI fcmp QN)

theorem neq_self (t : TypeId) {b : Nat} (hb : b < 2 ^ 64) : binOp .neq t (.float .f64 b) (.float .f64 b) = pure (.bool (nan b)) := by
  rw [binOp_float_cmp_neq]; show pure (Value.bool (Ieee.double.order b b != some .eq)) = _; rw [Fl.ne_self hb]

@[go_sem] theorem run_frombits (n : Int) (w : World) : (callFunc 28 #[.int .u64 n]).run Tryd.prog w = .ok (.value (.float .f64 n.toNat)) w := by kernel_rfl
@[go_sem] theorem run_bits (b : Nat) (w : World) : (callFunc 23 #[.float .f64 b]).run Tryd.prog w = .ok (.value (.int .u64 (b : Int))) w := by kernel_rfl

set_option maxHeartbeats 400000 in
theorem canon_any (b : Nat) (w : World) (hb : b < 2 ^ 64) :
    Calls Tryd.prog 24 #[.float .f64 b] w fun e w' => e = .returned (.float .f64 (canon b)) ∧ w = w' := by
  have h1 := neq_self 29 hb
  unfold canon
  cases hn : nan b <;> rw [hn] at h1
  · go_enter Tryd.func24, Tryd.ntmps24
    go_wp2
    go_ret
    exact ⟨rfl, rfl⟩
  · go_enter Tryd.func24, Tryd.ntmps24
    go_wp2
    go_ret
    exact ⟨rfl, rfl⟩

theorem lss_num (t : TypeId) {a b : Nat} (ha : a < 2 ^ 64) (hb : b < 2 ^ 64) (na : nan a = false) (nb : nan b = false) : binOp .lss t (.float .f64 a) (.float .f64 b) = pure (.bool (decide (Fl.key a < Fl.key b))) := by
  rw [binOp_float_cmp_lss]; show pure (Value.bool (Ieee.double.order a b == some .lt)) = _; rw [Fl.lt_key ha hb na nb]
theorem gtr_num (t : TypeId) {a b : Nat} (ha : a < 2 ^ 64) (hb : b < 2 ^ 64) (na : nan a = false) (nb : nan b = false) : binOp .gtr t (.float .f64 a) (.float .f64 b) = pure (.bool (decide (Fl.key b < Fl.key a))) := by
  rw [binOp_float_cmp_gtr]; show pure (Value.bool (Ieee.double.order a b == some .gt)) = _; rw [Fl.gt_key ha hb na nb]

set_option maxHeartbeats 400000 in
theorem isNaN_any (b : Nat) (w : World) (hb : b < 2 ^ 64) :
    Calls Tryd.prog 64 #[.float .f64 b] w fun e w' => e = .returned (.bool (nan b)) ∧ w = w' := by
  have h1 := neq_self 29 hb
  go_enter Tryd.func64, Tryd.ntmps64
  go_wp2
  go_ret
  exact ⟨rfl, rfl⟩

set_option maxHeartbeats 400000 in
theorem isNaNi_any (b : Int) (w : World) :
    Calls Tryd.prog 65 #[.int .i64 b] w fun e w' => e = .returned (.bool false) ∧ w = w' := by
  go_enter Tryd.func65, Tryd.ntmps65
  go_wp2
  go_ret
  exact ⟨by simp, rfl⟩

set_option maxHeartbeats 400000 in
theorem fcompare_any (a b : Nat) (w : World) (ha : a < 2 ^ 64) (hb : b < 2 ^ 64) (na : nan a = false) (nb : nan b = false) :
    Calls Tryd.prog 51 #[.float .f64 a, .float .f64 b] w fun e w' => e = .returned (.int .i64 (cmpI (key a) (key b))) ∧ w = w' := by
  have h1 := lss_num 29 ha hb na nb
  have h2 := gtr_num 29 ha hb na nb
  have n1 := isNaN_any a
  have n2 := isNaN_any b
  rw [na] at n1
  rw [nb] at n2
  unfold cmpI
  have N1 := Lib.hid n1
  have N2 := Lib.hid n2
  clear n1 n2
  rcases Int.lt_trichotomy (key a) (key b) with h | h | h
  · rw [if_pos h]
    go_enter Tryd.func51, Tryd.ntmps51
    go_wp2_with fail
    refine (N1.out _ ha).mono ?_
    rintro e w' ⟨rfl, rfl⟩
    go_wp2_with fail
    refine (N2.out _ hb).mono ?_
    rintro e w' ⟨rfl, rfl⟩
    go_wp2
    go_ret
    exact ⟨rfl, rfl⟩
  · rw [if_neg (by omega), if_neg (by omega)]
    have h3 : ¬ key a < key b := by omega
    have h4 : ¬ key b < key a := by omega
    clear h
    go_enter Tryd.func51, Tryd.ntmps51
    go_wp2_with fail
    refine (N1.out _ ha).mono ?_
    rintro e w' ⟨rfl, rfl⟩
    go_wp2_with fail
    refine (N2.out _ hb).mono ?_
    rintro e w' ⟨rfl, rfl⟩
    go_wp2
    go_ret
    exact ⟨rfl, rfl⟩
  · rw [if_neg (by omega), if_pos h]
    have h3 : ¬ key a < key b := by omega
    go_enter Tryd.func51, Tryd.ntmps51
    go_wp2_with fail
    refine (N1.out _ ha).mono ?_
    rintro e w' ⟨rfl, rfl⟩
    go_wp2_with fail
    refine (N2.out _ hb).mono ?_
    rintro e w' ⟨rfl, rfl⟩
    go_wp2
    go_ret
    exact ⟨rfl, rfl⟩

end Go.Proofs.YtelofaceadlfmaaDoor
