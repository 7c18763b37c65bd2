/- WALKS of fbit: Canon, side, isNaN, Compare. -/
import Derived.Test.YtbckfoldjlgabaaRows
import Derived.Test.YtbckfoldjlgabaaFloat
import Derived.WalkKit
import Derived.WalkSpells
import Derived.WalkLawsBesides
import Derived.Lib.Hide
namespace Go.Proofs.Ytbckfoldjlgabaa
open Go.RowKit
open Fl (nan key canon ord least most rank side cmpI fcmp QN)

theorem neq_self (t : TypeId) {b : Nat} (hb : b < 2 ^ 64) : binOp .neq t (.float .f64 b) (.float .f64 b) = pure (.bool (nan b)) := by
  rw [binOp_float_cmp_neq]; show pure (Value.bool (Ieee.double.order b b != some .eq)) = _; rw [Fl.ne_self hb]

@[go_sem] theorem run_frombits (n : Int) (w : World) : (callFunc 86 #[.int .u64 n]).run Try.prog w = .ok (.value (.float .f64 n.toNat)) w := by kernel_rfl
@[go_sem] theorem run_bits (b : Nat) (w : World) : (callFunc 60 #[.float .f64 b]).run Try.prog w = .ok (.value (.int .u64 (b : Int))) w := by kernel_rfl

set_option maxHeartbeats 400000 in
theorem canon_any (b : Nat) (w : World) (hb : b < 2 ^ 64) :
    Calls Try.prog 74 #[.float .f64 b] w fun e w' => e = .returned (.float .f64 (canon b)) ∧ w = w' := by
  have h1 := neq_self 64 hb
  unfold canon
  cases hn : nan b <;> rw [hn] at h1
  · go_enter Try.func74, Try.ntmps74
    go_wp2
    go_ret
    exact ⟨rfl, rfl⟩
  · go_enter Try.func74, Try.ntmps74
    go_wp2
    go_ret
    exact ⟨rfl, rfl⟩

theorem lss_num (t : TypeId) {a b : Nat} (ha : a < 2 ^ 64) (hb : b < 2 ^ 64) (na : nan a = false) (nb : nan b = false) : binOp .lss t (.float .f64 a) (.float .f64 b) = pure (.bool (decide (Fl.key a < Fl.key b))) := by
  rw [binOp_float_cmp_lss]; show pure (Value.bool (Ieee.double.order a b == some .lt)) = _; rw [Fl.lt_key ha hb na nb]
theorem gtr_num (t : TypeId) {a b : Nat} (ha : a < 2 ^ 64) (hb : b < 2 ^ 64) (na : nan a = false) (nb : nan b = false) : binOp .gtr t (.float .f64 a) (.float .f64 b) = pure (.bool (decide (Fl.key b < Fl.key a))) := by
  rw [binOp_float_cmp_gtr]; show pure (Value.bool (Ieee.double.order a b == some .gt)) = _; rw [Fl.gt_key ha hb na nb]

end Go.Proofs.Ytbckfoldjlgabaa
