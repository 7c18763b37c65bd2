/- WALK of the reference's Fit of cells. -/
import Derived.Test.YtelofaceadlfmaaRefC
import Derived.Test.YtelofaceadlfmaaCellB
namespace Go.Proofs.Ytelofaceadlfmaa
open Go.RowKit
open Fl (known fit merge V Cl applyC applyE revertC resolveC emptyC fitC)

/-- a value, closed to the walk -/
def vv (x : V) : Value := .agg #[.bool x.has, .int .u64 x.bits]
theorem eq_vv (x y : V) (w : World) : (binOp .eql 24 (vv x) (.agg #[.bool y.has, .int .u64 y.bits])).run Try.prog w = .ok (.bool (decide (x = y))) w := by
  unfold vv
  rw [run_eql_struct, eq24', eqVB]
  rfl
theorem guard_vv (x y : V) (a b : Operand) (w : World) : (eqGuard .eql 24 a b (vv x) (.agg #[.bool y.has, .int .u64 y.bits])).run Try.prog w = .ok () w :=
  run_eqGuard_agg w .eql 24 a b _ _ (by kernel_rfl)

set_option maxHeartbeats 1000000 in
theorem rcfit_any (k : Int) (c : Cl) (w : World) (hc : c.ok) :
    Calls Try.prog 16 #[.int .i64 k, .agg #[.int .u64 c.key, .bool c.prev.has, .int .u64 c.prev.bits, .bool c.cur.has, .int .u64 c.cur.bits, .int .i64 c.batch]] w
      fun e w' => e = .returned (.bool (fitC k c)) ∧ Below w.heap.size w w' := by
  have c1 := rknown_any k
  have c2 : ∀ w, Calls Try.prog 27 #[.int .i64 k, .agg #[.bool c.prev.has, .int .u64 c.prev.bits]] w fun e w' => e = .returned (vv (fit k c.prev)) ∧ Below w.heap.size w w' := fun w => rfit_any k c.prev w hc.1
  have c3 : ∀ w, Calls Try.prog 27 #[.int .i64 k, .agg #[.bool c.cur.has, .int .u64 c.cur.bits]] w fun e w' => e = .returned (vv (fit k c.cur)) ∧ Below w.heap.size w w' := fun w => rfit_any k c.cur w hc.2
  have e1 := eq_vv (fit k c.prev) c.prev
  have e2 := eq_vv (fit k c.cur) c.cur
  have g1 := guard_vv (fit k c.prev) c.prev
  have g2 := guard_vv (fit k c.cur) c.cur
  have r1 := fitC_no1 (k := k) (c := c)
  have r2 := fitC_no2 (k := k) (c := c)
  have r3 := fitC_no3 (k := k) (c := c)
  have r4 := fitC_rest (k := k) (c := c)
  generalize fitC k c = r at *
  generalize known k = h1 at *
  generalize decide (fit k c.prev = c.prev) = h2 at *
  generalize decide (fit k c.cur = c.cur) = h3 at *
  generalize fit k c.prev = v2 at *
  generalize fit k c.cur = v3 at *
  obtain ⟨key, prev, cur, n⟩ := c
  dsimp only at *
  clear hc
  have C1 := Lib.hid c1
  have C2 := Lib.hid c2
  have C3 := Lib.hid c3
  clear c1 c2 c3
  cases h1
  · have := r1 rfl
    subst this
    clear r1 r2 r3 r4
    go_enter Try.func16, Try.ntmps16
    go_wp2_with fail
    refine wp_region_below (by kernel_rfl) (by kernel_rfl) ?_
    iterate 31 (first | (refine lex_skip (by rfl) (fun _ _ _ _ h => h) ?_; simp only [Act.put, List.setIfInBounds_toArray, List.set_cons_zero, List.set_cons_succ]) | (refine lex_op (by rfl) ?_; apply Exists.intro; refine ⟨?_, ?_⟩; ((intro _ _ _ _ hT; obtain ⟨hc, hf⟩ := bcell hT; go_simp; first | exact rfl | (first | with_reducible exact call_same hT (C1.out _) | with_reducible exact call_below hT (C2.out _) | with_reducible exact call_below hT (C3.out _)))); simp only [Act.put, List.setIfInBounds_toArray, List.set_cons_zero, List.set_cons_succ]))
    refine lex_nil ?_
    intro w1 hb1
    go_wp2_with fail
    go_ret
    exact ⟨rfl, (by repeat' (first | with_reducible exact Below.refl _ _ | with_reducible assumption | with_reducible refine bel_drew ?_ | with_reducible refine bel_alloc ?_ _ | with_reducible refine bel_set ?_ ?_ _ | with_reducible refine bel_call ?_ (by assumption) | (dsimp only; omega) | (simp; done) | (simp; omega)))⟩
  cases h2
  · have := r2 rfl
    subst this
    clear r1 r2 r3 r4
    go_enter Try.func16, Try.ntmps16
    go_wp2_with fail
    refine wp_region_below (by kernel_rfl) (by kernel_rfl) ?_
    iterate 31 (first | (refine lex_skip (by rfl) (fun _ _ _ _ h => h) ?_; simp only [Act.put, List.setIfInBounds_toArray, List.set_cons_zero, List.set_cons_succ]) | (refine lex_op (by rfl) ?_; apply Exists.intro; refine ⟨?_, ?_⟩; ((intro _ _ _ _ hT; obtain ⟨hc, hf⟩ := bcell hT; go_simp; first | exact rfl | (first | with_reducible exact call_same hT (C1.out _) | with_reducible exact call_below hT (C2.out _) | with_reducible exact call_below hT (C3.out _)))); simp only [Act.put, List.setIfInBounds_toArray, List.set_cons_zero, List.set_cons_succ]))
    refine lex_nil ?_
    intro w1 hb1
    go_wp2_with fail
    go_ret
    exact ⟨rfl, (by repeat' (first | with_reducible exact Below.refl _ _ | with_reducible assumption | with_reducible refine bel_drew ?_ | with_reducible refine bel_alloc ?_ _ | with_reducible refine bel_set ?_ ?_ _ | with_reducible refine bel_call ?_ (by assumption) | (dsimp only; omega) | (simp; done) | (simp; omega)))⟩
  cases h3
  · have := r3 rfl
    subst this
    clear r1 r2 r3 r4
    go_enter Try.func16, Try.ntmps16
    go_wp2_with fail
    refine wp_region_below (by kernel_rfl) (by kernel_rfl) ?_
    iterate 31 (first | (refine lex_skip (by rfl) (fun _ _ _ _ h => h) ?_; simp only [Act.put, List.setIfInBounds_toArray, List.set_cons_zero, List.set_cons_succ]) | (refine lex_op (by rfl) ?_; apply Exists.intro; refine ⟨?_, ?_⟩; ((intro _ _ _ _ hT; obtain ⟨hc, hf⟩ := bcell hT; go_simp; first | exact rfl | (first | with_reducible exact call_same hT (C1.out _) | with_reducible exact call_below hT (C2.out _) | with_reducible exact call_below hT (C3.out _)))); simp only [Act.put, List.setIfInBounds_toArray, List.set_cons_zero, List.set_cons_succ]))
    refine lex_nil ?_
    intro w1 hb1
    go_wp2_with fail
    go_ret
    exact ⟨rfl, (by repeat' (first | with_reducible exact Below.refl _ _ | with_reducible assumption | with_reducible refine bel_drew ?_ | with_reducible refine bel_alloc ?_ _ | with_reducible refine bel_set ?_ ?_ _ | with_reducible refine bel_call ?_ (by assumption) | (dsimp only; omega) | (simp; done) | (simp; omega)))⟩
  have := r4 rfl rfl rfl
  subst this
  clear r1 r2 r3 r4
  generalize q1 : decide (0 ≤ n) = b1
  generalize q2 : decide (n ≤ 1099511627776) = b2
  cases b1 <;> cases b2 <;> simp only [Bool.and_self, Bool.and_false, Bool.false_and]
  all_goals
    go_enter Try.func16, Try.ntmps16
    go_wp2_with fail
    refine wp_region_below (by kernel_rfl) (by kernel_rfl) ?_
    iterate 31 (first | (refine lex_skip (by rfl) (fun _ _ _ _ h => h) ?_; simp only [Act.put, List.setIfInBounds_toArray, List.set_cons_zero, List.set_cons_succ]) | (refine lex_op (by rfl) ?_; apply Exists.intro; refine ⟨?_, ?_⟩; ((intro _ _ _ _ hT; obtain ⟨hc, hf⟩ := bcell hT; go_simp; first | exact rfl | (first | with_reducible exact call_same hT (C1.out _) | with_reducible exact call_below hT (C2.out _) | with_reducible exact call_below hT (C3.out _)))); simp only [Act.put, List.setIfInBounds_toArray, List.set_cons_zero, List.set_cons_succ]))
    refine lex_nil ?_
    intro w1 hb1
    go_wp2_with fail
    go_ret
    exact ⟨rfl, (by repeat' (first | with_reducible exact Below.refl _ _ | with_reducible assumption | with_reducible refine bel_drew ?_ | with_reducible refine bel_alloc ?_ _ | with_reducible refine bel_set ?_ ?_ _ | with_reducible refine bel_call ?_ (by assumption) | (dsimp only; omega) | (simp; done) | (simp; omega)))⟩
end Go.Proofs.Ytelofaceadlfmaa
