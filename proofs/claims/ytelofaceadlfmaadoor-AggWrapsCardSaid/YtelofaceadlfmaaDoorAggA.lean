/- WALKS of agg: Known, some, Of (least and most), Fit. -/
import Derived.Test.YtelofaceadlfmaaDoorFbitB
namespace Go.Proofs.YtelofaceadlfmaaDoor
open Go.RowKit
open Fl (nan key canon ord least most known fit merge V)

theorem known_iff (k : Int) : known k = true ↔ 1 ≤ k ∧ k ≤ 4 := by unfold known; simp

set_option maxHeartbeats 400000 in
theorem known_any (k : Int) (w : World) :
    Calls Tryd.prog 10 #[.int .i64 k] w fun e w' => e = .returned (.bool (known k)) ∧ w = w' := by
  unfold known
  by_cases h1 : 1 ≤ k <;> by_cases h2 : k ≤ 4 <;> simp only [h1, h2, decide_true, decide_false, Bool.and_self, Bool.and_false, Bool.false_and]
  all_goals
    go_enter Tryd.func10, Tryd.ntmps10
    go_wp2
    go_ret
    exact ⟨rfl, rfl⟩

set_option maxHeartbeats 400000 in
theorem some_any (b : Int) (w : World) :
    Calls Tryd.prog 21 #[.int .u64 b] w fun e w' => e = .returned (.agg #[.bool true, .int .u64 b]) ∧ Below w.heap.size w w' := by
  go_enter Tryd.func21, Tryd.ntmps21
  go_wp2
  refine bodyPost_ret (v := .agg #[.bool true, .int .u64 b]) (by simp only [results, Tryd.results21]; go_simp) rfl ?_
  exact ⟨rfl, (by repeat' (first | with_reducible exact Below.refl _ _ | with_reducible assumption | with_reducible refine bel_drew ?_ | with_reducible refine bel_alloc ?_ _ | with_reducible refine bel_set ?_ ?_ _ | with_reducible refine bel_call ?_ (by assumption) | (dsimp only; omega) | (simp; done) | (simp; omega)))⟩

set_option maxHeartbeats 400000 in
theorem of_fl (k : Int) (b : Nat) (w : World) (hk : k = 3 ∨ k = 4) (hb : b < 2 ^ 64) :
    Calls Tryd.prog 12 #[.int .i64 k, .float .f64 b] w fun e w' => e = .returned (.agg #[.bool true, .int .u64 (canon b)]) ∧ Below w.heap.size w w' := by
  have c1 := fun w => canon_any b w hb
  have C1 := Lib.hid c1
  clear c1 hb
  have C2 := Lib.hid some_any
  rcases hk with rfl | rfl
  all_goals
    go_enter Tryd.func12, Tryd.ntmps12
    go_wp2_with fail
    refine (C1.out _).mono ?_
    rintro e w' ⟨rfl, rfl⟩
    go_wp2_with fail
    refine (C2.out _ _).mono ?_
    rintro e w1 ⟨rfl, hb1⟩
    obtain ⟨hc, hf⟩ := bcell hb1
    go_wp2_with fail
    refine bodyPost_ret (v := .agg #[.bool true, .int .u64 (canon b)]) (by simp only [results, Tryd.results12]; go_simp) rfl ?_
    exact ⟨rfl, (by repeat' (first | with_reducible exact Below.refl _ _ | with_reducible assumption | with_reducible refine bel_drew ?_ | with_reducible refine bel_alloc ?_ _ | with_reducible refine bel_set ?_ ?_ _ | with_reducible refine bel_call ?_ (by assumption) | (dsimp only; omega) | (simp; done) | (simp; omega)))⟩

set_option maxHeartbeats 400000 in
theorem fit_any (k : Int) (x : V) (w : World) (hx : x.ok) :
    Calls Tryd.prog 14 #[.int .i64 k, .agg #[.bool x.has, .int .u64 x.bits]] w fun e w' => e = .returned (.agg #[.bool (fit k x).has, .int .u64 (fit k x).bits]) ∧ Below w.heap.size w w' := by
  obtain ⟨h, b⟩ := x
  have hb : b < 2 ^ 64 := hx
  have c1 := known_any k
  unfold fit
  cases hk : known k <;> rw [hk] at c1 <;> have C1 := Lib.hid c1 <;> clear c1
  · simp only [Bool.false_and, Bool.false_eq_true, if_false, V.none]
    clear hx hb hk
    go_enter Tryd.func14, Tryd.ntmps14
    go_wp2_with fail
    refine (C1.out _).mono ?_
    rintro e w' ⟨rfl, rfl⟩
    go_wp2_with fail
    refine bodyPost_ret (v := .agg #[.bool false, .int .u64 0]) (by simp only [results, Tryd.results14]; go_simp) rfl ?_
    exact ⟨rfl, (by repeat' (first | with_reducible exact Below.refl _ _ | with_reducible assumption | with_reducible refine bel_drew ?_ | with_reducible refine bel_alloc ?_ _ | with_reducible refine bel_set ?_ ?_ _ | with_reducible refine bel_call ?_ (by assumption) | (dsimp only; omega) | (simp; done) | (simp; omega)))⟩
  · cases h
    · simp only [Bool.and_false, Bool.false_eq_true, if_false, V.none]
      clear hx hb hk
      go_enter Tryd.func14, Tryd.ntmps14
      go_wp2_with fail
      refine (C1.out _).mono ?_
      rintro e w' ⟨rfl, rfl⟩
      go_wp2_with fail
      refine bodyPost_ret (v := .agg #[.bool false, .int .u64 0]) (by simp only [results, Tryd.results14]; go_simp) rfl ?_
      exact ⟨rfl, (by repeat' (first | with_reducible exact Below.refl _ _ | with_reducible assumption | with_reducible refine bel_drew ?_ | with_reducible refine bel_alloc ?_ _ | with_reducible refine bel_set ?_ ?_ _ | with_reducible refine bel_call ?_ (by assumption) | (dsimp only; omega) | (simp; done) | (simp; omega)))⟩
    · simp only [Bool.and_self, if_true]
      by_cases h34 : k = 3 ∨ k = 4
      · simp only [h34, if_true]
        have c2 := fun w => of_fl k b w h34 hb
        have C2 := Lib.hid c2
        clear c2 hx hb hk
        rcases h34 with rfl | rfl
        all_goals
          go_enter Tryd.func14, Tryd.ntmps14
          go_wp2_with fail
          refine (C1.out _).mono ?_
          rintro e w' ⟨rfl, rfl⟩
          go_wp2_with fail
          refine (C2.out _).mono ?_
          rintro e w1 ⟨rfl, hb1⟩
          obtain ⟨hc, hf⟩ := bcell hb1
          go_wp2_with fail
          refine bodyPost_ret (v := .agg #[.bool true, .int .u64 (canon b)]) (by simp only [results, Tryd.results14]; go_simp) rfl ?_
          exact ⟨rfl, (by repeat' (first | with_reducible exact Below.refl _ _ | with_reducible assumption | with_reducible refine bel_drew ?_ | with_reducible refine bel_alloc ?_ _ | with_reducible refine bel_set ?_ ?_ _ | with_reducible refine bel_call ?_ (by assumption) | (dsimp only; omega) | (simp; done) | (simp; omega)))⟩
      · simp only [h34, if_false]
        have h3 : (k == 3) = false := by simp; omega
        have h4 : (k == 4) = false := by simp; omega
        clear hx hb hk h34
        go_enter Tryd.func14, Tryd.ntmps14
        go_wp2_with fail
        refine (C1.out _).mono ?_
        rintro e w' ⟨rfl, rfl⟩
        go_wp2_with fail
        refine bodyPost_ret (v := .agg #[.bool true, .int .u64 b]) (by simp only [results, Tryd.results14]; go_simp) rfl ?_
        exact ⟨rfl, (by repeat' (first | with_reducible exact Below.refl _ _ | with_reducible assumption | with_reducible refine bel_drew ?_ | with_reducible refine bel_alloc ?_ _ | with_reducible refine bel_set ?_ ?_ _ | with_reducible refine bel_call ?_ (by assumption) | (dsimp only; omega) | (simp; done) | (simp; omega)))⟩
end Go.Proofs.YtelofaceadlfmaaDoor
