/- WALKS of ops: turn. -/
import Derived.Test.YtbckfoldjlgabaaOpsA
import Derived.Deep.RegionWith
import Derived.Recover
namespace Go.Proofs.Ytbckfoldjlgabaa
open Go.RowKit
open Fl (nan key canon)
theorem quo_none (t : TypeId) {x y : Nat} (h : floatBits .quo .f64 x y = none) (w : World) : ∃ v, (binOp .quo t (.float .f64 x) (.float .f64 y)).run Try.prog w = .ok (.float .f64 v) w.drew ∧ nan v = true ∧ v < 2 ^ 64 := by
  unfold floatBits at h
  dsimp only at h
  simp only [binOp, Op.floatArith, h]
  simp
  refine ⟨_, rfl, ?_, ?_⟩
  all_goals
    first
      | rw [Fl.nan_iff]
      | skip
    simp only [Question.cut]
    first
      | exact (cut_nan _ _ (Nat.mod_lt _ (by decide)) (Nat.mod_lt _ (by decide))).1
      | exact (cut_nan _ _ (Nat.mod_lt _ (by decide)) (Nat.mod_lt _ (by decide))).2
/-- what 1 / x gives -/
theorem quo_one (t : TypeId) (x : Nat) : ∃ (nv : World → Nat) (u : World → World), (∀ w, (binOp .quo t (.float .f64 4607182418800017408) (.float .f64 x)).run Try.prog w = .ok (.float .f64 (nv w)) (u w)) ∧ (∀ w, canon (nv w) = inv x ∧ nv w < 2 ^ 64 ∧ (u w = w ∨ u w = w.drew)) := by
  unfold inv
  cases h : Ieee.double.div 4607182418800017408 x with
  | some r => exact ⟨fun _ => r, fun w => w, fun w => run_float_arith w .quo t .f64 _ x r h, fun w => ⟨rfl, Ieee.double.div_lt h, .inl rfl⟩⟩
  | none =>
    have hq := quo_none t (x := 4607182418800017408) (y := x) h
    refine ⟨fun w => (hq w).choose, fun w => w.drew, fun w => (hq w).choose_spec.1, fun w => ⟨?_, (hq w).choose_spec.2.2, .inr rfl⟩⟩
    show canon _ = Fl.QN
    unfold Fl.canon
    rw [(hq w).choose_spec.2.1]
    rfl
theorem eql_num_self (t : TypeId) {x : Nat} (hx : x < 2 ^ 64) : binOp .eql t (.float .f64 x) (.float .f64 x) = pure (.bool (!nan x)) := eql_self t hx
theorem flip_word {x : Nat} (hx : x < 2 ^ 64) : Ieee.double.word (!Fl.neg x) (ab x) = Fl.flip x := by
  rw [ab_rung, ← Fl.flip_neg hx, ← Fl.flip_rung hx, Fl.word_neg (Fl.flip_lt hx)]
theorem sub_self_run (t : TypeId) {x : Nat} (hx : x < 2 ^ 64) (h : Fl.rung x < 2047 * 2 ^ 52) (w : World) : (binOp .sub t (.float .f64 x) (.float .f64 x)).run Try.prog w = .ok (.float .f64 0) w :=
  run_float_arith w .sub t .f64 x x 0 (sub_self_fin hx h)
theorem zero_neq (t : TypeId) : binOp .neq t (.float .f64 0) (.float .f64 0) = pure (.bool false) := by
  rw [neq_zero t (by decide) (by decide)]; rfl
theorem sub_self_none {x : Nat} (hx : x < 2 ^ 64) (h : 2047 * 2 ^ 52 ≤ Fl.rung x) : floatBits .sub .f64 x x = none := by
  by_cases h2 : Fl.rung x = 2047 * 2 ^ 52
  · exact sub_inf hx h2
  · have hn : nan x = true := by rw [Fl.nan_iff]; unfold Fl.rung at h h2; omega
    obtain ⟨s, t, hd⟩ := Fl.read_nan hn
    show ((Ieee.double.read x).sum (Ieee.double.read x).opposite).map Ieee.double.write = none
    rw [hd]; rfl
set_option maxRecDepth 100000 in
set_option maxHeartbeats 4000000 in
theorem turn_any (o : Stp) (x : Nat) (w : World) (ho : o.ok) (hx : x < 2 ^ 64) (hc : canon x = x) (hf : fate o x ≠ 3) :
    Calls Try.prog 88 #[.agg #[.int .i64 o.kind, .int .i64 o.n, .float .f64 o.x], .float .f64 x] w fun e w' => ∃ v : Nat, e = .returned (.tuple #[.float .f64 v, .bool (decide (fate o x = 1))]) ∧ canon v = nval o x ∧ v < 2 ^ 64 ∧ Below w.heap.size w w' := by
  obtain ⟨k, n, y⟩ := o
  have hy : y < 2 ^ 64 := ho.2.2.2.2
  have hn1 : -9223372036854775808 ≤ n := ho.2.2.1
  have hn2 : n ≤ 9223372036854775807 := ho.2.2.2.1
  unfold fate nval at *
  dsimp only at *
  rcases step_cases k with rfl | rfl | rfl | rfl | rfl | rfl | rfl | rfl | rfl | rfl | rfl | rfl | ⟨h0, h1, h2, h3, h4, h5, h6, h7, h8, h9, h10, h11, h12⟩
  -- 7
  · simp only [show ¬ (7 : Int) = 1 by decide, show ¬ (7 : Int) = 2 by decide, show ¬ (7 : Int) = 3 by decide, show ¬ (7 : Int) = 4 by decide, show ¬ (7 : Int) = 5 by decide, show ¬ (7 : Int) = 6 by decide, show ¬ (7 : Int) = 9 by decide, show ¬ (7 : Int) = 10 by decide, if_true, if_false, decide_true]
    have C1 := Lib.hid (fun w => fscale_any x n w hx)
    have hl := Lib.hid (And.intro (Fl.scl_canon x n) (Fl.scl_lt hx n))
    clear ho hc hf hx hy
    generalize Fl.scl x n = r at *
    go_enter Try.func88, Try.ntmps88
    go_wp2_with fail
    refine (C1.out _).mono ?_
    rintro e v ⟨rfl, rfl⟩
    go_wp2_with fail
    go_ret2
    exact ⟨_, rfl, hl.out.1, hl.out.2, (by repeat' (first | with_reducible exact Below.refl _ _ | with_reducible assumption | with_reducible refine bel_drew ?_ | with_reducible refine bel_alloc ?_ _ | with_reducible refine bel_set ?_ ?_ _ | with_reducible refine bel_call ?_ (by assumption) | (dsimp only; omega) | (simp; done) | (simp; omega)))⟩
  -- 11
  · simp only [show ¬ (11 : Int) = 1 by decide, show ¬ (11 : Int) = 2 by decide, show ¬ (11 : Int) = 3 by decide, show ¬ (11 : Int) = 4 by decide, show ¬ (11 : Int) = 5 by decide, show ¬ (11 : Int) = 6 by decide, show ¬ (11 : Int) = 7 by decide, show ¬ (11 : Int) = 8 by decide, show ¬ (11 : Int) = 9 by decide, show ¬ (11 : Int) = 10 by decide, if_false, decide_true]
    have hl := Lib.hid (And.intro hc hx)
    clear ho hc hf hx hy
    go_enter Try.func88, Try.ntmps88
    go_wp2_with fail
    go_ret2
    exact ⟨_, rfl, hl.out.1, hl.out.2, (by repeat' (first | with_reducible exact Below.refl _ _ | with_reducible assumption | with_reducible refine bel_drew ?_ | with_reducible refine bel_alloc ?_ _ | with_reducible refine bel_set ?_ ?_ _ | with_reducible refine bel_call ?_ (by assumption) | (dsimp only; omega) | (simp; done) | (simp; omega)))⟩
  -- 1
  · simp only [show ¬ (1 : Int) = 4 by decide, show ¬ (1 : Int) = 5 by decide, show ¬ (1 : Int) = 6 by decide, show ¬ (1 : Int) = 7 by decide, show ¬ (1 : Int) = 8 by decide, show ¬ (1 : Int) = 10 by decide, if_true, if_false]
    have hl := Lib.hid (And.intro hc hx)
    have g1 := lss_flt 64 hx hy
    have e : decide ((if flt x y = true then (1 : Int) else 2) = 1) = flt x y := by cases flt x y <;> rfl
    rw [e]
    clear ho hc hf hx hy e
    generalize flt x y = r at *
    go_enter Try.func88, Try.ntmps88
    go_wp2_with fail
    refine wp_region_below (by kernel_rfl) (by kernel_rfl) ?_
    iterate 7 (first | (refine lex_skip (by rfl) (fun _ _ _ _ h => h) ?_; simp only [Act.put, List.setIfInBounds_toArray, List.set_cons_zero, List.set_cons_succ]) | (refine lex_op (by rfl) ?_; apply Exists.intro; refine ⟨?_, ?_⟩; ((intro _ _ _ _ hT; obtain ⟨hc, hf⟩ := bcell hT; go_simp; first | exact rfl | fail)); simp only [Act.put, List.setIfInBounds_toArray, List.set_cons_zero, List.set_cons_succ]))
    refine lex_nil ?_
    intro w1 hT
    go_wp2_with fail
    go_ret2
    exact ⟨_, rfl, hl.out.1, hl.out.2, (by repeat' (first | with_reducible exact Below.refl _ _ | with_reducible assumption | with_reducible refine bel_drew ?_ | with_reducible refine bel_alloc ?_ _ | with_reducible refine bel_set ?_ ?_ _ | with_reducible refine bel_call ?_ (by assumption) | (dsimp only; omega) | (simp; done) | (simp; omega)))⟩
  -- 2
  · simp only [show ¬ (2 : Int) = 1 by decide, show ¬ (2 : Int) = 4 by decide, show ¬ (2 : Int) = 5 by decide, show ¬ (2 : Int) = 6 by decide, show ¬ (2 : Int) = 7 by decide, show ¬ (2 : Int) = 8 by decide, show ¬ (2 : Int) = 10 by decide, if_true, if_false]
    have hl := Lib.hid (And.intro hc hx)
    have g1 := gtr_flt 64 hx hy
    have e : decide ((if flt y x = true then (1 : Int) else 2) = 1) = flt y x := by cases flt y x <;> rfl
    rw [e]
    clear ho hc hf hx hy e
    generalize flt y x = r at *
    go_enter Try.func88, Try.ntmps88
    go_wp2_with fail
    refine wp_region_below (by kernel_rfl) (by kernel_rfl) ?_
    iterate 7 (first | (refine lex_skip (by rfl) (fun _ _ _ _ h => h) ?_; simp only [Act.put, List.setIfInBounds_toArray, List.set_cons_zero, List.set_cons_succ]) | (refine lex_op (by rfl) ?_; apply Exists.intro; refine ⟨?_, ?_⟩; ((intro _ _ _ _ hT; obtain ⟨hc, hf⟩ := bcell hT; go_simp; first | exact rfl | fail)); simp only [Act.put, List.setIfInBounds_toArray, List.set_cons_zero, List.set_cons_succ]))
    refine lex_nil ?_
    intro w1 hT
    go_wp2_with fail
    go_ret2
    exact ⟨_, rfl, hl.out.1, hl.out.2, (by repeat' (first | with_reducible exact Below.refl _ _ | with_reducible assumption | with_reducible refine bel_drew ?_ | with_reducible refine bel_alloc ?_ _ | with_reducible refine bel_set ?_ ?_ _ | with_reducible refine bel_call ?_ (by assumption) | (dsimp only; omega) | (simp; done) | (simp; omega)))⟩
  -- 3
  · simp only [show ¬ (3 : Int) = 1 by decide, show ¬ (3 : Int) = 2 by decide, show ¬ (3 : Int) = 4 by decide, show ¬ (3 : Int) = 5 by decide, show ¬ (3 : Int) = 6 by decide, show ¬ (3 : Int) = 7 by decide, show ¬ (3 : Int) = 8 by decide, show ¬ (3 : Int) = 10 by decide, if_true, if_false]
    have hl := Lib.hid (And.intro hc hx)
    have g1 := eql_num_self 64 hx
    have e : decide ((if nan x = true then (2 : Int) else 1) = 1) = !nan x := by cases nan x <;> rfl
    rw [e]
    clear ho hc hf hx hy e
    generalize nan x = r at *
    go_enter Try.func88, Try.ntmps88
    go_wp2_with fail
    go_ret2
    exact ⟨_, rfl, hl.out.1, hl.out.2, (by repeat' (first | with_reducible exact Below.refl _ _ | with_reducible assumption | with_reducible refine bel_drew ?_ | with_reducible refine bel_alloc ?_ _ | with_reducible refine bel_set ?_ ?_ _ | with_reducible refine bel_call ?_ (by assumption) | (dsimp only; omega) | (simp; done) | (simp; omega)))⟩
  -- 4
  · simp only [show ¬ (4 : Int) = 1 by decide, show ¬ (4 : Int) = 2 by decide, show ¬ (4 : Int) = 3 by decide, show ¬ (4 : Int) = 9 by decide, show ¬ (4 : Int) = 10 by decide, if_true, if_false, decide_true]
    have C1 := Lib.hid (fun w => copysign_any 4607182418800017408 x w (by decide) hx)
    have hs : Ieee.double.word (Fl.neg x) (ab 4607182418800017408) < 2 ^ 64 := Fl.word_lt' (by decide)
    have u1 := unary_neg hs
    have C2 := Lib.hid (fun w => copysign_any x _ w hx (Fl.flip_lt hs))
    rw [Fl.flip_neg hs, Fl.neg_word (by decide), flip_word hx] at C2
    have hl := Lib.hid (Fl.flip_lt hx)
    clear ho hc hf hx hy hs
    generalize Fl.flip x = r at *
    generalize Ieee.double.word (Fl.neg x) (ab 4607182418800017408) = s at *
    go_enter Try.func88, Try.ntmps88
    go_wp2_with fail
    refine (C1.out _).mono ?_
    rintro e v ⟨rfl, rfl⟩
    go_wp2_with fail
    refine (C2.out _).mono ?_
    rintro e v ⟨rfl, rfl⟩
    go_wp2_with fail
    go_ret2
    exact ⟨_, rfl, rfl, hl.out, (by repeat' (first | with_reducible exact Below.refl _ _ | with_reducible assumption | with_reducible refine bel_drew ?_ | with_reducible refine bel_alloc ?_ _ | with_reducible refine bel_set ?_ ?_ _ | with_reducible refine bel_call ?_ (by assumption) | (dsimp only; omega) | (simp; done) | (simp; omega)))⟩
  -- 5
  · simp only [show ¬ (5 : Int) = 1 by decide, show ¬ (5 : Int) = 2 by decide, show ¬ (5 : Int) = 3 by decide, show ¬ (5 : Int) = 4 by decide, show ¬ (5 : Int) = 9 by decide, show ¬ (5 : Int) = 10 by decide, if_true, if_false, decide_true]
    have C1 := Lib.hid (fun w => abs_any x w hx)
    have hl := Lib.hid (ab_lt x)
    clear ho hc hf hx hy
    generalize ab x = r at *
    go_enter Try.func88, Try.ntmps88
    go_wp2_with fail
    refine (C1.out _).mono ?_
    rintro e v ⟨rfl, rfl⟩
    go_wp2_with fail
    go_ret2
    exact ⟨_, rfl, rfl, hl.out, (by repeat' (first | with_reducible exact Below.refl _ _ | with_reducible assumption | with_reducible refine bel_drew ?_ | with_reducible refine bel_alloc ?_ _ | with_reducible refine bel_set ?_ ?_ _ | with_reducible refine bel_call ?_ (by assumption) | (dsimp only; omega) | (simp; done) | (simp; omega)))⟩
  -- 6
  · simp only [show ¬ (6 : Int) = 1 by decide, show ¬ (6 : Int) = 2 by decide, show ¬ (6 : Int) = 3 by decide, show ¬ (6 : Int) = 4 by decide, show ¬ (6 : Int) = 5 by decide, show ¬ (6 : Int) = 9 by decide, show ¬ (6 : Int) = 10 by decide, if_true, if_false, decide_true]
    have C1 := Lib.hid (fun w => ffloor_any x w hx)
    have hl := Lib.hid (And.intro (floor_canon x) (@floor_lt x))
    clear ho hc hf hx hy
    generalize floor x = r at *
    go_enter Try.func88, Try.ntmps88
    go_wp2_with fail
    refine (C1.out _).mono ?_
    rintro e v ⟨rfl, hb⟩
    go_wp2_with fail
    go_ret2
    exact ⟨_, rfl, hl.out.1, hl.out.2, (by repeat' (first | with_reducible exact Below.refl _ _ | with_reducible assumption | with_reducible refine bel_drew ?_ | with_reducible refine bel_alloc ?_ _ | with_reducible refine bel_set ?_ ?_ _ | with_reducible refine bel_call ?_ (by assumption) | (dsimp only; omega) | (simp; done) | (simp; omega)))⟩
  -- 8
  · simp only [show ¬ (8 : Int) = 1 by decide, show ¬ (8 : Int) = 2 by decide, show ¬ (8 : Int) = 3 by decide, show ¬ (8 : Int) = 4 by decide, show ¬ (8 : Int) = 5 by decide, show ¬ (8 : Int) = 6 by decide, show ¬ (8 : Int) = 7 by decide, show ¬ (8 : Int) = 9 by decide, show ¬ (8 : Int) = 10 by decide, if_true, if_false, decide_true]
    obtain ⟨nv, u, q1, q2⟩ := quo_one 64 x
    have Q2 := Lib.hid q2
    clear ho hc hf hx hy q2
    generalize inv x = r at *
    go_enter Try.func88, Try.ntmps88
    go_wp2_with fail
    go_ret2
    refine ⟨_, rfl, (Q2.out _).1, (Q2.out _).2.1, ?_⟩
    rcases (Q2.out _).2.2 with h | h
    · rw [h]; exact (by repeat' (first | with_reducible exact Below.refl _ _ | with_reducible assumption | with_reducible refine bel_drew ?_ | with_reducible refine bel_alloc ?_ _ | with_reducible refine bel_set ?_ ?_ _ | with_reducible refine bel_call ?_ (by assumption) | (dsimp only; omega) | (simp; done) | (simp; omega)))
    · rw [h]; exact (by repeat' (first | with_reducible exact Below.refl _ _ | with_reducible assumption | with_reducible refine bel_drew ?_ | with_reducible refine bel_alloc ?_ _ | with_reducible refine bel_set ?_ ?_ _ | with_reducible refine bel_call ?_ (by assumption) | (dsimp only; omega) | (simp; done) | (simp; omega)))
  -- 9
  · simp only [show ¬ (9 : Int) = 1 by decide, show ¬ (9 : Int) = 2 by decide, show ¬ (9 : Int) = 3 by decide, show ¬ (9 : Int) = 4 by decide, show ¬ (9 : Int) = 5 by decide, show ¬ (9 : Int) = 6 by decide, show ¬ (9 : Int) = 7 by decide, show ¬ (9 : Int) = 8 by decide, show ¬ (9 : Int) = 10 by decide, if_true, if_false] at hf ⊢
    have hr : Fl.rung x < 2047 * 2 ^ 52 := by
      rcases Nat.lt_or_ge (Fl.rung x) (2047 * 2 ^ 52) with h | h
      · exact h
      · exact absurd (if_pos h) hf
    rw [if_neg (by omega), decide_eq_true rfl]
    have s1 := fun w => sub_self_run 64 hx hr w
    have s2 := zero_neq 64
    have hl := Lib.hid (And.intro hc hx)
    clear ho hc hf hx hy hr
    go_enter Try.func88, Try.ntmps88
    go_wp2_with fail
    go_ret2
    exact ⟨_, rfl, hl.out.1, hl.out.2, (by repeat' (first | with_reducible exact Below.refl _ _ | with_reducible assumption | with_reducible refine bel_drew ?_ | with_reducible refine bel_alloc ?_ _ | with_reducible refine bel_set ?_ ?_ _ | with_reducible refine bel_call ?_ (by assumption) | (dsimp only; omega) | (simp; done) | (simp; omega)))⟩
  -- 10
  · simp only [show ¬ (10 : Int) = 1 by decide, show ¬ (10 : Int) = 2 by decide, show ¬ (10 : Int) = 3 by decide, show ¬ (10 : Int) = 4 by decide, show ¬ (10 : Int) = 5 by decide, show ¬ (10 : Int) = 6 by decide, show ¬ (10 : Int) = 7 by decide, show ¬ (10 : Int) = 8 by decide, show ¬ (10 : Int) = 9 by decide, if_true, if_false] at hf ⊢
    have hz : ¬ Fl.whole x = 0 := fun h => hf (if_pos h)
    rw [if_neg hz, decide_eq_true rfl]
    have C1 := Lib.hid (fun w => fwhole_any x w hx)
    have C2 := Lib.hid (fun m w => of_any m w)
    have hl := Lib.hid (fun m => And.intro (Fl.canon_num (Fl.nan_ofInt m)) (Fl.ofInt_lt m))
    clear ho hc hf hx hy
    generalize Fl.whole x = W at *
    have hw : Hid (IntKind.i64.wrap (n.tdiv W) = wrap64 (n.tdiv W)) := Lib.hid (by rw [IntKind.wrap_i64]; unfold wrap64; rfl)
    go_enter Try.func88, Try.ntmps88
    go_wp2_with fail
    refine wp_region_below (by kernel_rfl) (by kernel_rfl) ?_
    iterate 8 (first | (refine lex_skip (by rfl) (fun _ _ _ _ h => h) ?_; simp only [Act.put, List.setIfInBounds_toArray, List.set_cons_zero, List.set_cons_succ]) | (refine lex_op (by rfl) ?_; apply Exists.intro; refine ⟨?_, ?_⟩; ((intro _ _ _ _ hT; obtain ⟨hc, hf⟩ := bcell hT; go_simp; first | exact rfl | (first | with_reducible exact call_same hT (C1.out _) | with_reducible exact call_same hT (C2.out _ _)))); simp only [Act.put, List.setIfInBounds_toArray, List.set_cons_zero, List.set_cons_succ]))
    refine lex_nil ?_
    intro w1 hT
    go_wp2_with fail
    go_ret2
    rw [hw.out]
    exact ⟨_, rfl, (hl.out _).1, (hl.out _).2, (by repeat' (first | with_reducible exact Below.refl _ _ | with_reducible assumption | with_reducible refine bel_drew ?_ | with_reducible refine bel_alloc ?_ _ | with_reducible refine bel_set ?_ ?_ _ | with_reducible refine bel_call ?_ (by assumption) | (dsimp only; omega) | (simp; done) | (simp; omega)))⟩
  -- 12
  · simp only [show ¬ (12 : Int) = 1 by decide, show ¬ (12 : Int) = 2 by decide, show ¬ (12 : Int) = 3 by decide, show ¬ (12 : Int) = 4 by decide, show ¬ (12 : Int) = 5 by decide, show ¬ (12 : Int) = 6 by decide, show ¬ (12 : Int) = 7 by decide, show ¬ (12 : Int) = 8 by decide, show ¬ (12 : Int) = 9 by decide, show ¬ (12 : Int) = 10 by decide, if_false, decide_true]
    have hl := Lib.hid (And.intro hc hx)
    clear ho hc hf hx hy
    go_enter Try.func88, Try.ntmps88
    go_wp2_with fail
    go_ret2
    exact ⟨_, rfl, hl.out.1, hl.out.2, (by repeat' (first | with_reducible exact Below.refl _ _ | with_reducible assumption | with_reducible refine bel_drew ?_ | with_reducible refine bel_alloc ?_ _ | with_reducible refine bel_set ?_ ?_ _ | with_reducible refine bel_call ?_ (by assumption) | (dsimp only; omega) | (simp; done) | (simp; omega)))⟩
  · have e1 : ¬ k = 1 := by simpa using h1
    have e2 : ¬ k = 2 := by simpa using h2
    have e3 : ¬ k = 3 := by simpa using h3
    have e4 : ¬ k = 4 := by simpa using h4
    have e5 : ¬ k = 5 := by simpa using h5
    have e6 : ¬ k = 6 := by simpa using h6
    have e7 : ¬ k = 7 := by simpa using h7
    have e8 : ¬ k = 8 := by simpa using h8
    have e9 : ¬ k = 9 := by simpa using h9
    have e10 : ¬ k = 10 := by simpa using h10
    simp only [e1, e2, e3, e4, e5, e6, e7, e8, e9, e10, if_false, decide_true]
    have hl := Lib.hid (And.intro hc hx)
    clear ho hc hf hx hy h0 e1 e2 e3 e4 e5 e6 e7 e8 e9 e10 h11 h12
    go_enter Try.func88, Try.ntmps88
    go_wp2_with fail
    go_ret2
    exact ⟨_, rfl, hl.out.1, hl.out.2, (by repeat' (first | with_reducible exact Below.refl _ _ | with_reducible assumption | with_reducible refine bel_drew ?_ | with_reducible refine bel_alloc ?_ _ | with_reducible refine bel_set ?_ ?_ _ | with_reducible refine bel_call ?_ (by assumption) | (dsimp only; omega) | (simp; done) | (simp; omega)))⟩
/-- .. or it traps -/
def Traps (w : World) (e : Ending) (w' : World) : Prop := (∃ u pv, e = .panicked [{ v := .iface u pv, recovered := false }]) ∧ Below w.heap.size w w'
set_option maxRecDepth 100000 in
set_option maxHeartbeats 4000000 in
theorem turn_trap (o : Stp) (x : Nat) (w : World) (hx : x < 2 ^ 64) (hf : fate o x = 3) :
    Calls Try.prog 88 #[.agg #[.int .i64 o.kind, .int .i64 o.n, .float .f64 o.x], .float .f64 x] w (Traps w) := by
  obtain ⟨k, n, y⟩ := o
  have hk : (k = 9 ∧ 2047 * 2 ^ 52 ≤ Fl.rung x) ∨ (k = 10 ∧ Fl.whole x = 0) := by
    unfold fate at hf
    dsimp only at hf
    by_cases a1 : k = 1
    · rw [if_pos a1] at hf; split at hf <;> cases hf
    rw [if_neg a1] at hf
    by_cases a2 : k = 2
    · rw [if_pos a2] at hf; split at hf <;> cases hf
    rw [if_neg a2] at hf
    by_cases a3 : k = 3
    · rw [if_pos a3] at hf; split at hf <;> cases hf
    rw [if_neg a3] at hf
    by_cases a9 : k = 9
    · rw [if_pos a9] at hf
      refine .inl ⟨a9, ?_⟩
      split at hf
      · assumption
      · cases hf
    rw [if_neg a9] at hf
    by_cases a10 : k = 10
    · rw [if_pos a10] at hf
      refine .inr ⟨a10, ?_⟩
      split at hf
      · assumption
      · cases hf
    rw [if_neg a10] at hf
    cases hf
  unfold Traps
  rcases hk with ⟨rfl, hr⟩ | ⟨rfl, hz⟩
  · have q0 := run_arith_nan .sub 64 (.inr rfl) (sub_self_none hx hr)
    obtain ⟨nv, hv⟩ : ∃ nv : World → Nat, ∀ w, (binOp .sub 64 (.float .f64 x) (.float .f64 x)).run Try.prog w = .ok (.float .f64 (nv w)) w.drew ∧ nan (nv w) = true ∧ nv w < 2 ^ 64 := ⟨fun w => (q0 w).choose, fun w => (q0 w).choose_spec⟩
    have hv1 := fun w => (hv w).1
    have hv2 := fun w => neq_zero_nan 64 (hv w).2.1
    clear q0 hv hf hx hr
    go_enter Try.func88, Try.ntmps88
    go_wp2_with fail
    exact ⟨rfl, ⟨_, _, rfl⟩, (by repeat' (first | with_reducible exact Below.refl _ _ | with_reducible assumption | with_reducible refine bel_drew ?_ | with_reducible refine bel_alloc ?_ _ | with_reducible refine bel_set ?_ ?_ _ | with_reducible refine bel_call ?_ (by assumption) | (dsimp only; omega) | (simp; done) | (simp; omega)))⟩
  · have C1 := Lib.hid (fun w => fwhole_any x w hx)
    rw [hz] at C1
    clear hf hx hz
    go_enter Try.func88, Try.ntmps88
    go_wp2_with fail
    refine wp_region_any (by kernel_rfl) ?_
    change wpAny _ _ _ _ _ _ _ (World.drew _)
    refine wpAny_take (i := 0) (v := ?_) rfl (by kernel_rfl) (by kernel_rfl) (by kernel_rfl) (fun _ _ _ h => h) (Or.inl ⟨by rfl, ?_⟩) ?_
    case refine_2 => (intro w; go_simp; with_reducible rfl)
    refine wpAny_take (i := 2) (v := ?_) rfl (by kernel_rfl) (by kernel_rfl) (by kernel_rfl) (fun _ _ _ h => h) (Or.inl ⟨by rfl, ?_⟩) ?_
    case refine_2 => (intro w; go_simp; with_reducible rfl)
    refine wpAny_ready (rs := [1, 3]) (by kernel_rfl) (by simp) ?_
    refine AllReady.cons rfl (fun K hK => ?_) (AllReady.cons rfl (fun K hK => ?_) AllReady.nil)
    · go_simp
      refine hK _ _ ?_
      clear hK K
      refine wpAny_ready (rs := [3]) (by kernel_rfl) (by simp) ?_
      refine AllReady.cons rfl (fun K hK => ?_) AllReady.nil
      go_simp
      refine (C1.out _).mono ?_
      rintro e v ⟨rfl, rfl⟩
      refine hK _ _ ?_
      clear hK K
      refine wpAny_ready (rs := [4]) (by kernel_rfl) (by simp) ?_
      refine AllReady.cons rfl (fun K hK => ?_) AllReady.nil
      go_simp
      exact ⟨rfl, ⟨_, _, rfl⟩, (by repeat' (first | with_reducible exact Below.refl _ _ | with_reducible assumption | with_reducible refine bel_drew ?_ | with_reducible refine bel_alloc ?_ _ | with_reducible refine bel_set ?_ ?_ _ | with_reducible refine bel_call ?_ (by assumption) | (dsimp only; omega) | (simp; done) | (simp; omega)))⟩
    · go_simp
      refine (C1.out _).mono ?_
      rintro e v ⟨rfl, rfl⟩
      refine hK _ _ ?_
      clear hK K
      refine wpAny_ready (rs := [1]) (by kernel_rfl) (by simp) ?_
      refine AllReady.cons rfl (fun K hK => ?_) AllReady.nil
      go_simp
      refine hK _ _ ?_
      clear hK K
      refine wpAny_ready (rs := [4]) (by kernel_rfl) (by simp) ?_
      refine AllReady.cons rfl (fun K hK => ?_) AllReady.nil
      go_simp
      exact ⟨rfl, ⟨_, _, rfl⟩, (by repeat' (first | with_reducible exact Below.refl _ _ | with_reducible assumption | with_reducible refine bel_drew ?_ | with_reducible refine bel_alloc ?_ _ | with_reducible refine bel_set ?_ ?_ _ | with_reducible refine bel_call ?_ (by assumption) | (dsimp only; omega) | (simp; done) | (simp; omega)))⟩
end Go.Proofs.Ytbckfoldjlgabaa
