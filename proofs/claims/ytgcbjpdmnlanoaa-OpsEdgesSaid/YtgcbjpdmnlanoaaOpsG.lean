/- PLAIN and WALK of OpsEdges. -/
import Derived.Test.YtgcbjpdmnlanoaaOpsT
namespace Go.Proofs.Ytgcbjpdmnlanoaa
open Go.RowKit
open Fl (nan key canon)
open Ieee in
theorem inv_nan {x : Nat} (h : nan x = true) : inv x = Fl.QN := by
  obtain ⟨s, t, hd⟩ := Fl.read_nan h
  have e : double.div 4607182418800017408 x = none := by
    unfold Format.div
    rw [read_one, hd]
    rfl
  unfold inv
  rw [e]
open Ieee in
theorem inv_zero {x : Nat} (hx : x < 2 ^ 64) (h : Fl.rung x = 0) : inv x = double.word (Fl.neg x) (2047 * 2 ^ 52) := by
  have e : double.div 4607182418800017408 x = some (double.word (Fl.neg x) (2047 * 2 ^ 52)) := by
    unfold Format.div
    rw [read_one, Fl.read_num hx (by rw [h]; decide), h]
    cases Fl.neg x <;> decide +kernel
  unfold inv
  rw [e]
  exact Fl.canon_num (Fl.nan_word (Nat.le_refl _))
open Ieee in
theorem inv_inf {x : Nat} (hx : x < 2 ^ 64) (h : Fl.rung x = 2047 * 2 ^ 52) : inv x = double.word (Fl.neg x) 0 := by
  have e : double.div 4607182418800017408 x = some (double.word (Fl.neg x) 0) := by
    unfold Format.div
    rw [read_one, Fl.read_inf hx h]
    cases Fl.neg x <;> decide +kernel
  unfold inv
  rw [e]
  exact Fl.canon_num (Fl.nan_word (Nat.zero_le _))
open Ieee in
theorem inv_num {x : Nat} (hx : x < 2 ^ 64) (h0 : Fl.rung x ≠ 0) (h : Fl.rung x < 2047 * 2 ^ 52) : nan (inv x) = false := by
  have hm : (if Fl.rung x < 2 ^ 52 then Fl.rung x else 2 ^ 52 + Fl.rung x % 2 ^ 52) ≠ 0 := by split <;> omega
  obtain ⟨s, m, i, e⟩ : ∃ s m i, double.div 4607182418800017408 x = some (double.nearest s m i) := by
    unfold Format.div
    rw [read_one, Fl.read_num hx h]
    generalize (if Fl.rung x < 2 ^ 52 then Fl.rung x else 2 ^ 52 + Fl.rung x % 2 ^ 52) = n at *
    unfold Datum.quotient
    simp only [hm, if_false]
    exact ⟨_, _, _, rfl⟩
  have hn : nan (double.nearest s m i) = false := by
    unfold Format.nearest
    split
    · exact Fl.nan_word (Nat.zero_le _)
    · exact Fl.nan_word (by rw [Fl.ir]; exact Nat.min_le_right _ _)
  unfold inv
  rw [e]
  dsimp only
  rw [Fl.canon_num hn]
  exact hn
theorem inv_nan_iff {x : Nat} (hx : x < 2 ^ 64) : nan (inv x) = nan x := by
  cases h : nan x
  · rw [Fl.nan_false] at h
    by_cases h0 : Fl.rung x = 0
    · rw [inv_zero hx h0]; exact Fl.nan_word (Nat.le_refl _)
    · by_cases h1 : Fl.rung x = 2047 * 2 ^ 52
      · rw [inv_inf hx h1]; exact Fl.nan_word (Nat.zero_le _)
      · exact inv_num hx h0 (by unfold Fl.rung at h1 ⊢; omega)
  · rw [inv_nan h]; decide
theorem inv_inv {x : Nat} (hx : x < 2 ^ 64) (h : Fl.rung x = 0 ∨ Fl.rung x = 2047 * 2 ^ 52) : inv (inv x) = x := by
  rcases h with h | h
  · rw [inv_zero hx h, inv_inf (Fl.word_lt' (by decide)) (Fl.rung_word (by decide)), Fl.neg_word (by decide), ← h, Fl.word_neg hx]
  · rw [inv_inf hx h, inv_zero (Fl.word_lt' (by decide)) (Fl.rung_word (by decide)), Fl.neg_word (by decide), ← h, Fl.word_neg hx]
theorem one_neg (x : Nat) : one ⟨4, 0, 0⟩ ⟨9, x⟩ = (⟨9, canon (Fl.flip (canon x))⟩, 1) := by
  rw [one_yes (o := ⟨4, 0, 0⟩) (r := ⟨9, x⟩) rfl rfl]; rfl
theorem one_abs (x : Nat) : one ⟨5, 0, 0⟩ ⟨9, x⟩ = (⟨9, canon (ab (canon x))⟩, 1) := by
  rw [one_yes (o := ⟨5, 0, 0⟩) (r := ⟨9, x⟩) rfl rfl]; rfl
theorem one_inv (x : Nat) : one ⟨8, 0, 0⟩ ⟨9, x⟩ = (⟨9, inv (canon x)⟩, 1) := by
  rw [one_yes (o := ⟨8, 0, 0⟩) (r := ⟨9, x⟩) rfl rfl]; rfl
theorem one_less (x y : Nat) : ((one ⟨1, 0, y⟩ ⟨0, x⟩).2 == 1) = flt x y ∧ ((one ⟨1, 0, y⟩ ⟨0, x⟩).2 != 3) = true := by
  cases h : flt x y
  · rw [one_else (o := ⟨1, 0, y⟩) (r := ⟨0, x⟩) (z := 2) rfl (by unfold fate; dsimp only; rw [if_pos rfl, flt_canon_left, h]; rfl) (by decide)]; exact ⟨rfl, rfl⟩
  · rw [one_yes (o := ⟨1, 0, y⟩) (r := ⟨0, x⟩) rfl (by unfold fate; dsimp only; rw [if_pos rfl, flt_canon_left, h]; rfl)]; exact ⟨rfl, rfl⟩
theorem one_more (x y : Nat) : ((one ⟨2, 0, y⟩ ⟨0, x⟩).2 == 1) = flt y x ∧ ((one ⟨2, 0, y⟩ ⟨0, x⟩).2 != 3) = true := by
  cases h : flt y x
  · rw [one_else (o := ⟨2, 0, y⟩) (r := ⟨0, x⟩) (z := 2) rfl (by unfold fate; dsimp only; rw [if_neg (show ¬ (2 : Int) = 1 by decide), if_pos rfl, flt_canon_right, h]; rfl) (by decide)]; exact ⟨rfl, rfl⟩
  · rw [one_yes (o := ⟨2, 0, y⟩) (r := ⟨0, x⟩) rfl (by unfold fate; dsimp only; rw [if_neg (show ¬ (2 : Int) = 1 by decide), if_pos rfl, flt_canon_right, h]; rfl)]; exact ⟨rfl, rfl⟩
theorem nan_canon (x : Nat) : nan (canon x) = nan x := by
  cases h : nan x
  · rw [Fl.canon_num h]; exact h
  · rw [canon_of_nan h]; decide
theorem one_real (x : Nat) : ((one ⟨3, 0, 0⟩ ⟨0, x⟩).2 == 1) = !nan x ∧ ((one ⟨3, 0, 0⟩ ⟨0, x⟩).2 != 3) = true := by
  cases h : nan x
  · rw [one_yes (o := ⟨3, 0, 0⟩) (r := ⟨0, x⟩) rfl (by unfold fate; dsimp only; rw [if_neg (show ¬ (3 : Int) = 1 by decide), if_neg (show ¬ (3 : Int) = 2 by decide), if_pos rfl, nan_canon, h]; rfl)]; exact ⟨rfl, rfl⟩
  · rw [one_else (o := ⟨3, 0, 0⟩) (r := ⟨0, x⟩) (z := 2) rfl (by unfold fate; dsimp only; rw [if_neg (show ¬ (3 : Int) = 1 by decide), if_neg (show ¬ (3 : Int) = 2 by decide), if_pos rfl, nan_canon, h]; rfl) (by decide)]; exact ⟨rfl, rfl⟩
end Go.Proofs.Ytgcbjpdmnlanoaa
