/- WALKS of fbit: cmp.Compare of ints, cmp.Or, side, Order, Least, Most. -/
import Derived.Test.YtelofaceadlfmaaDoorFbitA
import Derived.Test.YtelofaceadlfmaaDoorAggPure
import Derived.Test.YtelofaceadlfmaaDoorRegion
namespace Go.Proofs.YtelofaceadlfmaaDoor
open Go.RowKit
open Fl (nan key canon ord least most rank side cmpI fcmp QN)

set_option maxHeartbeats 400000 in
theorem icompare_any (a b : Int) (w : World) :
    Calls Tryd.prog 52 #[.int .i64 a, .int .i64 b] w fun e w' => e = .returned (.int .i64 (cmpI a b)) ∧ w = w' := by
  have n1 := fun x w => isNaNi_any x w
  have N1 := Lib.hid n1
  clear n1
  unfold cmpI
  by_cases h : a < b
  · rw [if_pos h]
    go_enter Tryd.func52, Tryd.ntmps52
    go_wp2_with (go_at_call 65; refine (N1.out _ _).mono ?_; rintro e w' ⟨rfl, rfl⟩)
    go_ret
    exact ⟨rfl, rfl⟩
  · rw [if_neg h]
    by_cases h' : b < a
    · rw [if_pos h']
      go_enter Tryd.func52, Tryd.ntmps52
      go_wp2_with (go_at_call 65; refine (N1.out _ _).mono ?_; rintro e w' ⟨rfl, rfl⟩)
      go_ret
      exact ⟨rfl, rfl⟩
    · rw [if_neg h']
      go_enter Tryd.func52, Tryd.ntmps52
      go_wp2_with (go_at_call 65; refine (N1.out _ _).mono ?_; rintro e w' ⟨rfl, rfl⟩)
      go_ret
      exact ⟨rfl, rfl⟩

set_option maxHeartbeats 400000 in
theorem side_any (b : Nat) (w : World) (hb : b < 2 ^ 64) :
    Calls Tryd.prog 53 #[.float .f64 b] w fun e w' => e = .returned (.int .i64 (side b)) ∧ w = w' := by
  unfold side
  by_cases h : 2 ^ 63 ≤ b
  · rw [if_pos h]
    have hw : wrap64 (b : Int) < 0 := by unfold wrap64; omega
    clear h hb
    go_enter Tryd.func53, Tryd.ntmps53
    go_wp2
    go_ret
    exact ⟨rfl, rfl⟩
  · rw [if_neg h]
    have hw : ¬ wrap64 (b : Int) < 0 := by unfold wrap64; omega
    clear h hb
    go_enter Tryd.func53, Tryd.ntmps53
    go_wp2
    go_ret
    exact ⟨rfl, rfl⟩

set_option maxHeartbeats 400000 in
theorem or_any (x y : Int) (b : Nat) (w : World) (h0 : w.cell? ⟨b, 0, none⟩ = some (.int .i64 x)) (h1 : w.cell? ⟨b, 1, none⟩ = some (.int .i64 y)) :
    Calls Tryd.prog 50 #[.slice (some ⟨b, 0, none⟩) 2 2] w fun e w' => e = .returned (.int .i64 (Fl.orI x y)) ∧ w = w' := by
  unfold Fl.orI
  by_cases hx : x = 0
  · subst hx
    rw [if_pos rfl]
    by_cases hy : y = 0
    · subst hy
      go_enter Tryd.func50, Tryd.ntmps50
      go_wp2
      refine wp_loop_rounds 3 ?_
      rw [rounds_succ]
      go_wp2
      rw [rounds_succ]
      go_wp2
      rw [rounds_succ]
      go_wp2
      go_ret
      exact ⟨rfl, rfl⟩
    · have hy' : (y != 0) = true := by simpa using hy
      clear hy
      go_enter Tryd.func50, Tryd.ntmps50
      go_wp2
      refine wp_loop_rounds 3 ?_
      rw [rounds_succ]
      go_wp2
      rw [rounds_succ]
      go_wp2
      go_ret
      exact ⟨rfl, rfl⟩
  · rw [if_neg hx]
    have hx' : (x != 0) = true := by simpa using hx
    clear hx
    go_enter Tryd.func50, Tryd.ntmps50
    go_wp2
    refine wp_loop_rounds 3 ?_
    rw [rounds_succ]
    go_wp2
    go_ret
    exact ⟨rfl, rfl⟩

set_option maxHeartbeats 400000 in
theorem order_any (a b : Nat) (w : World) (ha : a < 2 ^ 64) (hb : b < 2 ^ 64) :
    Calls Tryd.prog 40 #[.float .f64 a, .float .f64 b] w fun e w' => e = .returned (.int .i64 (ord a b)) ∧ Below w.heap.size w w' := by
  have h1 := neq_self 29 ha
  have h2 := neq_self 29 hb
  cases na : nan a <;> cases nb : nan b
  · have c1 := fun w => fcompare_any a b w ha hb na nb
    have c2 := fun w => side_any a w ha
    have c3 := fun w => side_any b w hb
    have C1 := Lib.hid c1
    have C2 := Lib.hid c2
    have C3 := Lib.hid c3
    rw [na] at h1
    rw [nb] at h2
    have hr : ord a b = Fl.orI (cmpI (key a) (key b)) (cmpI (side a) (side b)) := Fl.ord_eq ha hb na nb
    rw [hr]
    clear hr
    clear c1 c2 c3 ha hb na nb
    go_enter Tryd.func40, Tryd.ntmps40
    go_wp2_with fail
    refine (C1.out _).mono ?_
    rintro e w' ⟨rfl, rfl⟩
    go_wp2_with fail
    refine (C2.out _).mono ?_
    rintro e w' ⟨rfl, rfl⟩
    go_wp2_with fail
    refine (C3.out _).mono ?_
    rintro e w' ⟨rfl, rfl⟩
    go_wp2_with fail
    refine (icompare_any _ _ _).mono ?_
    rintro e w' ⟨rfl, rfl⟩
    go_wp2_with fail
    refine (or_any (cmpI (key a) (key b)) (cmpI (side a) (side b)) _ _ ?_ ?_).mono ?_
    · go_simp
    · go_simp
    rintro e w' ⟨rfl, rfl⟩
    go_wp2_with fail
    go_ret
    exact ⟨rfl, (Below.refl _ _).alloc (Nat.le_refl _) _⟩
  · rw [Fl.ord_nan_right ha na nb]
    rw [na] at h1
    rw [nb] at h2
    clear ha hb na nb
    go_enter Tryd.func40, Tryd.ntmps40
    go_wp2
    go_ret
    exact ⟨rfl, Below.refl _ _⟩
  · rw [Fl.ord_nan_left hb na nb]
    rw [na] at h1
    rw [nb] at h2
    clear ha hb na nb
    go_enter Tryd.func40, Tryd.ntmps40
    go_wp2
    go_ret
    exact ⟨rfl, Below.refl _ _⟩
  · rw [Fl.ord_nan_nan na nb]
    rw [na] at h1
    rw [nb] at h2
    clear ha hb na nb
    go_enter Tryd.func40, Tryd.ntmps40
    go_wp2
    go_ret
    exact ⟨rfl, Below.refl _ _⟩

set_option maxHeartbeats 400000 in
theorem least_any (a b : Nat) (w : World) (ha : a < 2 ^ 64) (hb : b < 2 ^ 64) :
    Calls Tryd.prog 30 #[.float .f64 a, .float .f64 b] w fun e w' => e = .returned (.float .f64 (least a b)) ∧ Below w.heap.size w w' := by
  have c1 := fun w => order_any a b w ha hb
  have C1 := Lib.hid c1
  unfold least
  by_cases h : 0 < ord a b
  · rw [if_pos h]
    have c2 := fun w => canon_any b w hb
    have C2 := Lib.hid c2
    clear c1 c2 ha hb
    go_enter Tryd.func30, Tryd.ntmps30
    go_wp2_with fail
    refine (C1.out _).mono ?_
    rintro e w1 ⟨rfl, hb1⟩
    go_wp2_with fail
    refine (C2.out _).mono ?_
    rintro e w' ⟨rfl, rfl⟩
    go_wp2_with fail
    go_ret
    exact ⟨rfl, hb1⟩
  · rw [if_neg h]
    have c2 := fun w => canon_any a w ha
    have C2 := Lib.hid c2
    clear c1 c2 ha hb
    go_enter Tryd.func30, Tryd.ntmps30
    go_wp2_with fail
    refine (C1.out _).mono ?_
    rintro e w1 ⟨rfl, hb1⟩
    go_wp2_with fail
    refine (C2.out _).mono ?_
    rintro e w' ⟨rfl, rfl⟩
    go_wp2_with fail
    go_ret
    exact ⟨rfl, hb1⟩

set_option maxHeartbeats 400000 in
theorem most_any (a b : Nat) (w : World) (ha : a < 2 ^ 64) (hb : b < 2 ^ 64) :
    Calls Tryd.prog 31 #[.float .f64 a, .float .f64 b] w fun e w' => e = .returned (.float .f64 (most a b)) ∧ Below w.heap.size w w' := by
  have c1 := fun w => order_any a b w ha hb
  have C1 := Lib.hid c1
  unfold most
  by_cases h : ord a b < 0
  · rw [if_pos h]
    have c2 := fun w => canon_any b w hb
    have C2 := Lib.hid c2
    clear c1 c2 ha hb
    go_enter Tryd.func31, Tryd.ntmps31
    go_wp2_with fail
    refine (C1.out _).mono ?_
    rintro e w1 ⟨rfl, hb1⟩
    go_wp2_with fail
    refine (C2.out _).mono ?_
    rintro e w' ⟨rfl, rfl⟩
    go_wp2_with fail
    go_ret
    exact ⟨rfl, hb1⟩
  · rw [if_neg h]
    have c2 := fun w => canon_any a w ha
    have C2 := Lib.hid c2
    clear c1 c2 ha hb
    go_enter Tryd.func31, Tryd.ntmps31
    go_wp2_with fail
    refine (C1.out _).mono ?_
    rintro e w1 ⟨rfl, hb1⟩
    go_wp2_with fail
    refine (C2.out _).mono ?_
    rintro e w' ⟨rfl, rfl⟩
    go_wp2_with fail
    go_ret
    exact ⟨rfl, hb1⟩

end Go.Proofs.YtelofaceadlfmaaDoor
