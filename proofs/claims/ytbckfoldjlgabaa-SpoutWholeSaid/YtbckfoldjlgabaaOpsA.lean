/- WALKS of ops: Copysign, side, isStep. -/
import Derived.Test.YtbckfoldjlgabaaOpsP
namespace Go.Proofs.Ytbckfoldjlgabaa
open Go.RowKit
open Fl (nan key canon)
theorem andNot_ab {b : Nat} (hb : b < 2 ^ 64) : bits .andNot .u64 (b : Int) 9223372036854775808 = ((ab b : Nat) : Int) := andNot_sign hb
theorem or_sign {a s : Nat} (ha : a < 2 ^ 63) (hs : s = 0 ∨ s = 2 ^ 63) : bits .or .u64 ((a : Nat) : Int) ((s : Nat) : Int) = ((s + a : Nat) : Int) := by
  refine (u64_or_nat _ _ (by omega) (by omega)).trans ?_
  rcases hs with rfl | rfl
  · rw [Nat.or_zero, Nat.zero_add]
  · have h := or_split 63 0 a 1 0 ha (by decide)
    rw [Nat.zero_or, Nat.or_zero, Nat.mul_zero, Nat.zero_add, Nat.add_zero, Nat.mul_one] at h
    rw [h]
set_option maxHeartbeats 400000 in
theorem copysign_any (a b : Nat) (w : World) (ha : a < 2 ^ 64) (hb : b < 2 ^ 64) :
    Calls Try.prog 91 #[.float .f64 a, .float .f64 b] w fun e w' => e = .returned (.float .f64 (Ieee.double.word (Fl.neg b) (ab a))) ∧ w = w' := by
  have h1 := andNot_ab ha
  have h2 := and_sign hb
  have hs : (if 2 ^ 63 ≤ b then 2 ^ 63 else 0 : Nat) = 0 ∨ (if 2 ^ 63 ≤ b then 2 ^ 63 else 0 : Nat) = 2 ^ 63 := by split <;> simp
  have hl : ab a < 2 ^ 63 := by unfold ab; omega
  have h3 := or_sign hl hs
  rw [word_sum]
  clear ha hb hl hs
  generalize (if 2 ^ 63 ≤ b then 2 ^ 63 else 0 : Nat) = c at *
  generalize ab a = d at *
  generalize c + d = s at *
  go_enter Try.func91, Try.ntmps91
  go_wp2
  go_ret
  exact ⟨by simp, rfl⟩
set_option maxHeartbeats 400000 in
theorem oside_any (x : Nat) (w : World) (hx : x < 2 ^ 64) :
    Calls Try.prog 87 #[.float .f64 x] w fun e w' => e = .returned (.int .u64 (sde x)) ∧ w = w' := by
  have h1 := lss_flt 64 (b := 0) hx (by decide)
  have h2 := gtr_flt 64 (b := 0) hx (by decide)
  have h3 := eql_zer 64 hx
  unfold sde
  generalize flt x 0 = p at *
  generalize flt 0 x = q at *
  generalize zer x = r at *
  clear hx
  cases p <;> cases q <;> cases r
  all_goals
    go_enter Try.func87, Try.ntmps87
    go_wp2
    go_ret
    exact ⟨rfl, rfl⟩
set_option maxHeartbeats 400000 in
theorem rside_any (x : Nat) (w : World) (hx : x < 2 ^ 64) :
    Calls Try.prog 85 #[.float .f64 x] w fun e w' => e = .returned (.int .u64 (sde x)) ∧ w = w' := by
  have h1 := lss_flt 64 (b := 0) hx (by decide)
  have h2 := gtr_flt 64 (b := 0) hx (by decide)
  have h3 := eql_zer 64 hx
  have hno : ¬ (flt 0 x = true ∧ zer x = true) := by
    unfold flt zer
    rintro ⟨a, b⟩
    simp only [Bool.and_eq_true, decide_eq_true_eq] at a b
    have e : ab x = 0 := b.2
    have := a.2
    unfold ab at e
    unfold Fl.key at this
    split at this <;> simp at this <;> omega
  unfold sde
  generalize flt x 0 = p at *
  generalize flt 0 x = q at *
  generalize zer x = r at *
  clear hx
  cases p <;> cases q <;> cases r <;> first | (exfalso; exact hno ⟨rfl, rfl⟩) | skip
  all_goals
    clear hno
    go_enter Try.func85, Try.ntmps85
    go_wp2
    go_ret
    exact ⟨rfl, rfl⟩
theorem rng_cases (lo hi n : Int) : (lo ≤ n ∧ n ≤ hi ∧ decide (lo ≤ n ∧ n ≤ hi) = true) ∨ (¬ lo ≤ n ∧ decide (lo ≤ n ∧ n ≤ hi) = false) ∨ (lo ≤ n ∧ ¬ n ≤ hi ∧ decide (lo ≤ n ∧ n ≤ hi) = false) := by
  by_cases h1 : lo ≤ n
  · by_cases h2 : n ≤ hi
    · exact .inl ⟨h1, h2, decide_eq_true ⟨h1, h2⟩⟩
    · exact .inr (.inr ⟨h1, h2, decide_eq_false (fun h => h2 h.2)⟩)
  · exact .inr (.inl ⟨h1, decide_eq_false (fun h => h1 h.1)⟩)
theorem low_cases (lo n : Int) : (lo ≤ n ∧ decide (lo ≤ n) = true) ∨ (¬ lo ≤ n ∧ decide (lo ≤ n) = false) := by
  by_cases h1 : lo ≤ n
  · exact .inl ⟨h1, decide_eq_true h1⟩
  · exact .inr ⟨h1, decide_eq_false h1⟩
theorem kind_cases (k : Int) : (k = 7 ∨ k = 11 ∨ ((k == 7) = false ∧ (k == 11) = false)) := by
  by_cases h1 : k = 7
  · exact .inl h1
  · by_cases h2 : k = 11
    · exact .inr (.inl h2)
    · exact .inr (.inr ⟨beq_eq_false_iff_ne.2 h1, beq_eq_false_iff_ne.2 h2⟩)
set_option maxHeartbeats 1000000 in
theorem isStep_any (o : Stp) (w : World) :
    Calls Try.prog 65 #[.agg #[.int .i64 o.kind, .int .i64 o.n, .float .f64 o.x]] w fun e w' => e = .returned (.bool (isStp o)) ∧ Below w.heap.size w w' := by
  obtain ⟨k, n, x⟩ := o
  unfold isStp
  dsimp only
  rcases kind_cases k with rfl | rfl | ⟨h1, h2⟩
  · rw [if_pos rfl]
    rcases rng_cases (-2200) 2200 n with ⟨g1, g2, g3⟩ | ⟨g1, g3⟩ | ⟨g1, g2, g3⟩
    all_goals
      rw [g3]
      clear g3
      go_enter Try.func65, Try.ntmps65
      go_wp2
      go_ret
      exact ⟨rfl, (by repeat' (first | with_reducible exact Below.refl _ _ | with_reducible assumption | with_reducible refine bel_drew ?_ | with_reducible refine bel_alloc ?_ _ | with_reducible refine bel_set ?_ ?_ _ | with_reducible refine bel_call ?_ (by assumption) | (dsimp only; omega) | (simp; done) | (simp; omega)))⟩
  · rw [if_neg (by decide), if_pos rfl]
    rcases low_cases 1 n with ⟨g1, g3⟩ | ⟨g1, g3⟩
    all_goals
      rw [g3]
      clear g3
      go_enter Try.func65, Try.ntmps65
      go_wp2
      go_ret
      exact ⟨rfl, (by repeat' (first | with_reducible exact Below.refl _ _ | with_reducible assumption | with_reducible refine bel_drew ?_ | with_reducible refine bel_alloc ?_ _ | with_reducible refine bel_set ?_ ?_ _ | with_reducible refine bel_call ?_ (by assumption) | (dsimp only; omega) | (simp; done) | (simp; omega)))⟩
  · rw [if_neg (by simpa using h1), if_neg (by simpa using h2)]
    rcases rng_cases 1 12 k with ⟨g1, g2, g3⟩ | ⟨g1, g3⟩ | ⟨g1, g2, g3⟩
    all_goals
      rw [g3]
      clear g3
      go_enter Try.func65, Try.ntmps65
      go_wp2
      go_ret
      exact ⟨rfl, (by repeat' (first | with_reducible exact Below.refl _ _ | with_reducible assumption | with_reducible refine bel_drew ?_ | with_reducible refine bel_alloc ?_ _ | with_reducible refine bel_set ?_ ?_ _ | with_reducible refine bel_call ?_ (by assumption) | (dsimp only; omega) | (simp; done) | (simp; omega)))⟩
theorem step_cases (k : Int) : k = 7 ∨ k = 11 ∨ k = 1 ∨ k = 2 ∨ k = 3 ∨ k = 4 ∨ k = 5 ∨ k = 6 ∨ k = 8 ∨ k = 9 ∨ k = 10 ∨ k = 12 ∨ ((k < 1 ∨ 12 < k) ∧ (k == 1) = false ∧ (k == 2) = false ∧ (k == 3) = false ∧ (k == 4) = false ∧ (k == 5) = false ∧ (k == 6) = false ∧ (k == 7) = false ∧ (k == 8) = false ∧ (k == 9) = false ∧ (k == 10) = false ∧ (k == 11) = false ∧ (k == 12) = false) := by
  simp only [beq_eq_false_iff_ne]
  omega
set_option maxHeartbeats 2000000 in
theorem rstep_any (o : Stp) (w : World) :
    Calls Try.prog 66 #[.agg #[.int .i64 o.kind, .int .i64 o.n, .float .f64 o.x]] w fun e w' => e = .returned (.bool (isStp o)) ∧ Below w.heap.size w w' := by
  obtain ⟨k, n, x⟩ := o
  unfold isStp
  dsimp only
  rcases step_cases k with rfl | rfl | rfl | rfl | rfl | rfl | rfl | rfl | rfl | rfl | rfl | rfl | ⟨h0, h1, h2, h3, h4, h5, h6, h7, h8, h9, h10, h11, h12⟩
  · rw [if_pos rfl]
    rcases rng_cases (-2200) 2200 n with ⟨g1, g2, g3⟩ | ⟨g1, g3⟩ | ⟨g1, g2, g3⟩
    all_goals
      rw [g3]
      clear g3
      go_enter Try.func66, Try.ntmps66
      go_wp2
      go_ret
      exact ⟨rfl, (by repeat' (first | with_reducible exact Below.refl _ _ | with_reducible assumption | with_reducible refine bel_drew ?_ | with_reducible refine bel_alloc ?_ _ | with_reducible refine bel_set ?_ ?_ _ | with_reducible refine bel_call ?_ (by assumption) | (dsimp only; omega) | (simp; done) | (simp; omega)))⟩
  · rw [if_neg (by decide), if_pos rfl]
    rcases low_cases 1 n with ⟨g1, g3⟩ | ⟨g1, g3⟩
    all_goals
      rw [g3]
      clear g3
      go_enter Try.func66, Try.ntmps66
      go_wp2
      go_ret
      exact ⟨rfl, (by repeat' (first | with_reducible exact Below.refl _ _ | with_reducible assumption | with_reducible refine bel_drew ?_ | with_reducible refine bel_alloc ?_ _ | with_reducible refine bel_set ?_ ?_ _ | with_reducible refine bel_call ?_ (by assumption) | (dsimp only; omega) | (simp; done) | (simp; omega)))⟩
  all_goals
    first
      | (rw [if_neg (by decide), if_neg (by decide), decide_eq_true (by decide)]
         go_enter Try.func66, Try.ntmps66
         go_wp2
         go_ret
         exact ⟨rfl, (by repeat' (first | with_reducible exact Below.refl _ _ | with_reducible assumption | with_reducible refine bel_drew ?_ | with_reducible refine bel_alloc ?_ _ | with_reducible refine bel_set ?_ ?_ _ | with_reducible refine bel_call ?_ (by assumption) | (dsimp only; omega) | (simp; done) | (simp; omega)))⟩)
      | (rw [if_neg (by simpa using h7), if_neg (by simpa using h11), decide_eq_false (by omega)]
         clear h0
         go_enter Try.func66, Try.ntmps66
         go_wp2
         go_ret
         exact ⟨rfl, (by repeat' (first | with_reducible exact Below.refl _ _ | with_reducible assumption | with_reducible refine bel_drew ?_ | with_reducible refine bel_alloc ?_ _ | with_reducible refine bel_set ?_ ?_ _ | with_reducible refine bel_call ?_ (by assumption) | (dsimp only; omega) | (simp; done) | (simp; omega)))⟩)
end Go.Proofs.Ytbckfoldjlgabaa
