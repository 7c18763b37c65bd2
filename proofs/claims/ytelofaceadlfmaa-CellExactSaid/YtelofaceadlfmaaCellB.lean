/- WALKS of cell.Fit and its closure. -/
import Derived.Test.YtelofaceadlfmaaCellA
namespace Go.Proofs.Ytelofaceadlfmaa
open Go.RowKit
open Fl (known fit merge V Cl applyC applyE revertC resolveC emptyC fitC)

set_option maxHeartbeats 400000 in
theorem fits_any (k : Int) (x : V) (b : Nat) (w : World) (hx : x.ok) (hk : w.cell? ⟨b, 0, none⟩ = some (.int .i64 k)) (hb : b < w.heap.size) :
    Calls Try.prog 26 #[.agg #[.bool x.has, .int .u64 x.bits], .pointer (some ⟨b, 0, none⟩)] w
      fun e w' => e = .returned (.bool (decide (fit k x = x))) ∧ Below w.heap.size w w' := by
  have c1 := fun w => fit_any k x w hx
  generalize fit k x = fx at *
  clear hx
  have h1 : b < w.heap.size + 1 := by omega
  have hne : ¬ b = w.heap.size := by omega
  obtain ⟨xh, xb⟩ := x
  obtain ⟨yh, yb⟩ := fx
  by_cases e1 : yh = xh
  · subst e1
    by_cases e2 : yb = xb
    · subst e2
      rw [decide_eq_true rfl]
      have C1 := Lib.hid c1
      clear c1
      go_enter Try.func26, Try.ntmps26
      go_wp2_with fail
      refine wp_region_below (by kernel_rfl) (by kernel_rfl) ?_
      iterate 6 (first | (refine lex_skip (by rfl) (fun _ _ _ _ h => h) ?_; simp only [Act.put, List.setIfInBounds_toArray, List.set_cons_zero, List.set_cons_succ]) | (refine lex_op (by rfl) ?_; apply Exists.intro; refine ⟨?_, ?_⟩; ((intro _ _ _ _ hT; obtain ⟨hc, hf⟩ := bcell hT; go_simp; first | exact rfl | exact call_below hT (C1.out _))); simp only [Act.put, List.setIfInBounds_toArray, List.set_cons_zero, List.set_cons_succ]))
      refine lex_nil ?_
      intro w1 hT
      go_wp2_with fail
      go_ret
      exact ⟨rfl, (by repeat' (first | with_reducible exact Below.refl _ _ | with_reducible assumption | with_reducible refine bel_drew ?_ | with_reducible refine bel_alloc ?_ _ | with_reducible refine bel_set ?_ ?_ _ | with_reducible refine bel_call ?_ (by assumption) | (dsimp only; omega) | (simp; done) | (simp; omega)))⟩
    · have e3 : ¬ (yb : Int) = xb := by omega
      rw [decide_eq_false (by intro h; cases h; exact e2 rfl)]
      have C1 := Lib.hid c1
      clear c1 e2
      go_enter Try.func26, Try.ntmps26
      go_wp2_with fail
      refine wp_region_below (by kernel_rfl) (by kernel_rfl) ?_
      iterate 6 (first | (refine lex_skip (by rfl) (fun _ _ _ _ h => h) ?_; simp only [Act.put, List.setIfInBounds_toArray, List.set_cons_zero, List.set_cons_succ]) | (refine lex_op (by rfl) ?_; apply Exists.intro; refine ⟨?_, ?_⟩; ((intro _ _ _ _ hT; obtain ⟨hc, hf⟩ := bcell hT; go_simp; first | exact rfl | exact call_below hT (C1.out _))); simp only [Act.put, List.setIfInBounds_toArray, List.set_cons_zero, List.set_cons_succ]))
      refine lex_nil ?_
      intro w1 hT
      go_wp2_with fail
      go_ret
      exact ⟨rfl, (by repeat' (first | with_reducible exact Below.refl _ _ | with_reducible assumption | with_reducible refine bel_drew ?_ | with_reducible refine bel_alloc ?_ _ | with_reducible refine bel_set ?_ ?_ _ | with_reducible refine bel_call ?_ (by assumption) | (dsimp only; omega) | (simp; done) | (simp; omega)))⟩
  · rw [decide_eq_false (by intro h; cases h; exact e1 rfl)]
    have C1 := Lib.hid c1
    clear c1
    go_enter Try.func26, Try.ntmps26
    go_wp2_with fail
    refine wp_region_below (by kernel_rfl) (by kernel_rfl) ?_
    iterate 6 (first | (refine lex_skip (by rfl) (fun _ _ _ _ h => h) ?_; simp only [Act.put, List.setIfInBounds_toArray, List.set_cons_zero, List.set_cons_succ]) | (refine lex_op (by rfl) ?_; apply Exists.intro; refine ⟨?_, ?_⟩; ((intro _ _ _ _ hT; obtain ⟨hc, hf⟩ := bcell hT; go_simp; first | exact rfl | exact call_below hT (C1.out _))); simp only [Act.put, List.setIfInBounds_toArray, List.set_cons_zero, List.set_cons_succ]))
    refine lex_nil ?_
    intro w1 hT
    go_wp2_with fail
    go_ret
    exact ⟨rfl, (by repeat' (first | with_reducible exact Below.refl _ _ | with_reducible assumption | with_reducible refine bel_drew ?_ | with_reducible refine bel_alloc ?_ _ | with_reducible refine bel_set ?_ ?_ _ | with_reducible refine bel_call ?_ (by assumption) | (dsimp only; omega) | (simp; done) | (simp; omega)))⟩

/-- what Fit asks, step by step -/
theorem fitC_no1 {k : Int} {c : Cl} (h : known k = false) : fitC k c = false := by unfold fitC; rw [h]; rfl
theorem fitC_no2 {k : Int} {c : Cl} (h : decide (fit k c.prev = c.prev) = false) : fitC k c = false := by unfold fitC; rw [h]; simp
theorem fitC_no3 {k : Int} {c : Cl} (h : decide (fit k c.cur = c.cur) = false) : fitC k c = false := by unfold fitC; rw [h]; simp
theorem fitC_rest {k : Int} {c : Cl} (h : known k = true) (h1 : decide (fit k c.prev = c.prev) = true) (h2 : decide (fit k c.cur = c.cur) = true) : fitC k c = (decide (0 ≤ c.batch) && decide (c.batch ≤ 1099511627776)) := by
  unfold fitC; rw [h, h1, h2]; rfl

set_option maxHeartbeats 1000000 in
theorem cfit_any (k : Int) (c : Cl) (w : World) (hc : c.ok) :
    Calls Try.prog 15 #[.int .i64 k, .agg #[.int .u64 c.key, .bool c.prev.has, .int .u64 c.prev.bits, .bool c.cur.has, .int .u64 c.cur.bits, .int .i64 c.batch]] w
      fun e w' => e = .returned (.bool (fitC k c)) ∧ Below w.heap.size w w' := by
  have c1 := known_any k
  have c2 := fun b w => fits_any k c.prev b w hc.1
  have c3 := fun b w => fits_any k c.cur b w hc.2
  have r1 := fitC_no1 (k := k) (c := c)
  have r2 := fitC_no2 (k := k) (c := c)
  have r3 := fitC_no3 (k := k) (c := c)
  have r4 := fitC_rest (k := k) (c := c)
  generalize fitC k c = r at *
  generalize known k = h1 at *
  generalize decide (fit k c.prev = c.prev) = h2 at *
  generalize decide (fit k c.cur = c.cur) = h3 at *
  obtain ⟨key, prev, cur, n⟩ := c
  dsimp only at *
  clear hc
  have C1 := Lib.hid c1
  have C2 := Lib.hid c2
  have C3 := Lib.hid c3
  clear c1 c2 c3
  cases h1
  · have := r1 rfl
    subst this
    clear r1 r2 r3 r4
    go_enter Try.func15, Try.ntmps15
    go_wp2_with fail
    refine (C1.out _).mono ?_
    rintro e w' ⟨rfl, rfl⟩
    go_wp2_with fail
    go_ret
    exact ⟨rfl, (by repeat' (first | with_reducible exact Below.refl _ _ | with_reducible assumption | with_reducible refine bel_drew ?_ | with_reducible refine bel_alloc ?_ _ | with_reducible refine bel_set ?_ ?_ _ | with_reducible refine bel_call ?_ (by assumption) | (dsimp only; omega) | (simp; done) | (simp; omega)))⟩
  cases h2
  · have := r2 rfl
    subst this
    clear r1 r2 r3 r4
    go_enter Try.func15, Try.ntmps15
    go_wp2_with fail
    refine (C1.out _).mono ?_
    rintro e w' ⟨rfl, rfl⟩
    go_wp2_with fail
    refine (C2.out _ _ (by go_simp) (by go_simp)).mono ?_
    rintro e w1 ⟨rfl, hb1⟩
    obtain ⟨hc, hf⟩ := bcell hb1
    go_wp2_with fail
    go_ret
    exact ⟨rfl, (by repeat' (first | with_reducible exact Below.refl _ _ | with_reducible assumption | with_reducible refine bel_drew ?_ | with_reducible refine bel_alloc ?_ _ | with_reducible refine bel_set ?_ ?_ _ | with_reducible refine bel_call ?_ (by assumption) | (dsimp only; omega) | (simp; done) | (simp; omega)))⟩
  cases h3
  · have := r3 rfl
    subst this
    clear r1 r2 r3 r4
    go_enter Try.func15, Try.ntmps15
    go_wp2_with fail
    refine (C1.out _).mono ?_
    rintro e w' ⟨rfl, rfl⟩
    go_wp2_with fail
    refine (C2.out _ _ (by go_simp) (by go_simp)).mono ?_
    rintro e w1 ⟨rfl, hb1⟩
    obtain ⟨hc, hf⟩ := bcell hb1
    have z1 : w.heap.size < w1.heap.size := by have := hb1.size; simp at this; omega
    go_wp2_with fail
    refine (C3.out _ _ (by go_simp) (by go_simp)).mono ?_
    rintro e w2 ⟨rfl, hb2⟩
    go_wp2_with fail
    go_ret
    exact ⟨rfl, (by repeat' (first | with_reducible exact Below.refl _ _ | with_reducible assumption | with_reducible refine bel_drew ?_ | with_reducible refine bel_alloc ?_ _ | with_reducible refine bel_set ?_ ?_ _ | with_reducible refine bel_call ?_ (by assumption) | (dsimp only; omega) | (simp; done) | (simp; omega)))⟩
  have := r4 rfl rfl rfl
  subst this
  clear r1 r2 r3 r4
  generalize g1 : decide (0 ≤ n) = b1
  generalize g2 : decide (n ≤ 1099511627776) = b2
  cases b1 <;> cases b2 <;> simp only [Bool.and_self, Bool.and_false, Bool.false_and]
  all_goals
    go_enter Try.func15, Try.ntmps15
    go_wp2_with fail
    refine (C1.out _).mono ?_
    rintro e w' ⟨rfl, rfl⟩
    go_wp2_with fail
    refine (C2.out _ _ (by go_simp) (by go_simp)).mono ?_
    rintro e w1 ⟨rfl, hb1⟩
    obtain ⟨hc, hf⟩ := bcell hb1
    have z1 : w.heap.size < w1.heap.size := by have := hb1.size; simp at this; omega
    have z2 : w.heap.size + 1 < w1.heap.size := by have := hb1.size; simp at this; omega
    go_wp2_with fail
    refine (C3.out _ _ (by go_simp) (by go_simp)).mono ?_
    rintro e w2 ⟨rfl, hb2⟩
    obtain ⟨hc2, hf2⟩ := bcell hb2
    go_wp2_with fail
    go_ret
    exact ⟨rfl, (by repeat' (first | with_reducible exact Below.refl _ _ | with_reducible assumption | with_reducible refine bel_drew ?_ | with_reducible refine bel_alloc ?_ _ | with_reducible refine bel_set ?_ ?_ _ | with_reducible refine bel_call ?_ (by assumption) | (dsimp only; omega) | (simp; done) | (simp; omega)))⟩
end Go.Proofs.Ytelofaceadlfmaa
