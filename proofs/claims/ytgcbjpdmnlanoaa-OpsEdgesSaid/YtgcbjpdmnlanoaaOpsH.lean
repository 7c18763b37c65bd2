/- WALK of OpsEdges. -/
import Derived.Test.YtgcbjpdmnlanoaaOpsG
namespace Go.Proofs.Ytgcbjpdmnlanoaa
open Go.RowKit
open Fl (nan key canon)
theorem flip_flip {x : Nat} (hx : x < 2 ^ 64) : Fl.flip (Fl.flip x) = x := by unfold Fl.flip; split <;> split <;> omega
theorem flip_ne {x : Nat} : Fl.flip x ≠ x := by unfold Fl.flip; split <;> omega
theorem ab_flip {x : Nat} (hx : x < 2 ^ 64) : ab (Fl.flip x) = ab x := by rw [ab_rung, ab_rung, Fl.flip_rung hx]
theorem ab_or {x : Nat} (hx : x < 2 ^ 64) : ab x = x ∨ (ab x ≠ x ∧ ab x = Fl.flip x) := by unfold ab Fl.flip; split <;> omega
theorem flt_ab (x : Nat) : flt (canon (ab x)) 0 = false := by
  rw [flt_canon_left]
  unfold flt
  rw [key_ab]
  have h : decide (((ab x : Nat) : Int) < key 0) = false := decide_eq_false (by rw [show key 0 = 0 by decide]; omega)
  rw [h, Bool.and_false]
/-- what the walk asks of the words -/
structure EdgeC (x y c A S I J : Nat) (nx : Bool) : Prop where
  cc : ∀ w, Calls Try.prog 21 #[.float .f64 x] w fun e w' => e = .returned (.float .f64 c) ∧ w = w'
  n1 : ∀ w, Calls Try.prog 22 #[.int .i64 4, .int .i64 0, .float .f64 x] w fun e w' => e = .returned (.tuple #[.float .f64 A, .int .i64 1]) ∧ Below w.heap.size w w'
  n2 : ∀ w, Calls Try.prog 22 #[.int .i64 4, .int .i64 0, .float .f64 A] w fun e w' => e = .returned (.tuple #[.float .f64 c, .int .i64 1]) ∧ Below w.heap.size w w'
  b1 : ∀ w, Calls Try.prog 22 #[.int .i64 5, .int .i64 0, .float .f64 x] w fun e w' => e = .returned (.tuple #[.float .f64 S, .int .i64 1]) ∧ Below w.heap.size w w'
  b2 : ∀ w, Calls Try.prog 22 #[.int .i64 5, .int .i64 0, .float .f64 A] w fun e w' => e = .returned (.tuple #[.float .f64 S, .int .i64 1]) ∧ Below w.heap.size w w'
  i1 : ∀ w, Calls Try.prog 22 #[.int .i64 8, .int .i64 0, .float .f64 x] w fun e w' => e = .returned (.tuple #[.float .f64 I, .int .i64 1]) ∧ Below w.heap.size w w'
  i2 : ∀ w, Calls Try.prog 22 #[.int .i64 8, .int .i64 0, .float .f64 I] w fun e w' => e = .returned (.tuple #[.float .f64 J, .int .i64 1]) ∧ Below w.heap.size w w'
  ex : binOp .eql 29 (.float .f64 x) (.float .f64 x) = pure (.bool (!nx))
  ei : binOp .eql 29 (.float .f64 I) (.float .f64 I) = pure (.bool (!nx))
  ls : binOp .lss 29 (.float .f64 S) (.float .f64 0) = pure (.bool false)
theorem edgeC {x y : Nat} (hx : x < 2 ^ 64) : EdgeC x y (canon x) (canon (Fl.flip (canon x))) (canon (ab (canon x))) (inv (canon x)) (inv (inv (canon x))) (nan x) := by
  have hc := Fl.canon_lt hx
  have hA := Fl.canon_lt (Fl.flip_lt hc)
  have ok4 : Stp.ok ⟨4, 0, 0⟩ := stp_ok (by decide) (by decide) (by decide) (by decide)
  have ok5 : Stp.ok ⟨5, 0, 0⟩ := stp_ok (by decide) (by decide) (by decide) (by decide)
  have ok8 : Stp.ok ⟨8, 0, 0⟩ := stp_ok (by decide) (by decide) (by decide) (by decide)
  have e1 : canon (Fl.flip (canon (canon (Fl.flip (canon x))))) = canon x := by
    rw [Fl.canon_canon]
    cases h : nan x
    · rw [Fl.canon_num h, Fl.canon_num ((Fl.flip_nan hx).trans h), flip_flip hx, Fl.canon_num h]
    · rw [canon_of_nan h]; decide
  have e2 : canon (ab (canon (canon (Fl.flip (canon x))))) = canon (ab (canon x)) := by
    rw [Fl.canon_canon]
    cases h : nan x
    · rw [Fl.canon_num h, Fl.canon_num ((Fl.flip_nan hx).trans h), ab_flip hx]
    · rw [canon_of_nan h]; decide
  refine ⟨fun w => canon_any x w hx, fun w => ?_, fun w => ?_, fun w => ?_, fun w => ?_, fun w => ?_, fun w => ?_, eql_self _ hx, ?_, ?_⟩
  · have h := lstep_any 4 0 x w ok4 hx; rw [one_neg] at h; exact h
  · have h := lstep_any 4 0 _ w ok4 hA; rw [one_neg, e1] at h; exact h
  · have h := lstep_any 5 0 x w ok5 hx; rw [one_abs] at h; exact h
  · have h := lstep_any 5 0 _ w ok5 hA; rw [one_abs, e2] at h; exact h
  · have h := lstep_any 8 0 x w ok8 hx; rw [one_inv] at h; exact h
  · have h := lstep_any 8 0 _ w ok8 (inv_lt (canon x)); rw [one_inv, inv_canon] at h; exact h
  · have h := eql_self 29 (inv_lt (canon x)); rw [inv_nan_iff hc, nan_canon] at h; exact h
  · have h := lss_flt 29 (b := 0) (Fl.canon_lt (ab_lt (canon x))) (by decide); rw [flt_ab] at h; exact h
set_option maxRecDepth 100000 in
set_option maxHeartbeats 16000000 in
theorem edges_any (x y : Nat) (w : World) (hx : x < 2 ^ 64) (hy : y < 2 ^ 64) :
    Calls Try.prog 7 #[.float .f64 x, .float .f64 y] w fun e w' => e = .returned (.bool true) ∧ Below w.heap.size w w' := by
  have C0 := Lib.hid oawake_any
  have CS : Hid (∀ a w, Calls Try.prog 23 #[.float .f64 a, .float .f64 a] w fun e w' => e = .returned (.bool true) ∧ w = w') := Lib.hid (fun a w => by have c := rsame_any a a w; rw [decide_eq_true rfl] at c; exact c)
  have CF : Hid (∀ a b w, a ≠ b → Calls Try.prog 23 #[.float .f64 a, .float .f64 b] w fun e w' => e = .returned (.bool false) ∧ w = w') := Lib.hid (fun a b w h => by have c := rsame_any a b w; rw [decide_eq_false h] at c; exact c)
  have okL : Stp.ok ⟨1, 0, y⟩ := ⟨by show (-9223372036854775808 : Int) ≤ 1; decide, by show (1 : Int) ≤ 9223372036854775807; decide, by show (-9223372036854775808 : Int) ≤ 0; decide, by show (0 : Int) ≤ 9223372036854775807; decide, hy⟩
  have okM : Stp.ok ⟨2, 0, y⟩ := ⟨by show (-9223372036854775808 : Int) ≤ 2; decide, by show (2 : Int) ≤ 9223372036854775807; decide, by show (-9223372036854775808 : Int) ≤ 0; decide, by show (0 : Int) ≤ 9223372036854775807; decide, hy⟩
  have okR : Stp.ok ⟨3, 0, 0⟩ := stp_ok (by decide) (by decide) (by decide) (by decide)
  have okx : Rc.ok ⟨0, x⟩ := ⟨by show (0 : Int) ≤ 0; decide, by show (0 : Int) ≤ 18446744073709551615; decide, hx⟩
  have L1 := Lib.hid (fun w => one_any' ⟨1, 0, y⟩ ⟨0, x⟩ w okL okx _ rfl)
  have L2 := Lib.hid (fun w => one_any' ⟨2, 0, y⟩ ⟨0, x⟩ w okM okx _ rfl)
  have L3 := Lib.hid (fun w => one_any' ⟨3, 0, 0⟩ ⟨0, x⟩ w okR okx _ rfl)
  obtain ⟨f1, f2⟩ := one_less x y
  obtain ⟨f3, f4⟩ := one_more x y
  obtain ⟨f5, f6⟩ := one_real x
  have m1 := lss_flt 29 hx hy
  have m2 := gtr_flt 29 hx hy
  have EC := edgeC (y := y) hx
  have ez := eql_zer 29 hx
  have p : Below w.heap.size w w := Below.refl _ _
  clear okL okM okR okx
  generalize one ⟨1, 0, y⟩ ⟨0, x⟩ = T1 at *
  generalize one ⟨2, 0, y⟩ ⟨0, x⟩ = T2 at *
  generalize one ⟨3, 0, 0⟩ ⟨0, x⟩ = T3 at *
  obtain ⟨⟨t1k, t1v⟩, t1⟩ := T1
  obtain ⟨⟨t2k, t2v⟩, t2⟩ := T2
  obtain ⟨⟨t3k, t3v⟩, t3⟩ := T3
  dsimp only at *
  generalize flt x y = fl at *
  generalize flt y x = fg at *
  have hsub : ∀ b : Nat, b < 2 ^ 64 → ∃ (nv : World → Nat) (u : World → World), (∀ w, (binOp .sub 29 (.float .f64 b) (.float .f64 b)).run Try.prog w = .ok (.float .f64 (nv w)) (u w)) ∧ (∀ w, binOp .neq 29 (.float .f64 (nv w)) (.float .f64 0) = pure (.bool (decide (2047 * 2 ^ 52 ≤ Fl.rung b)))) ∧ (∀ w w1, Below w.heap.size w w1 → Below w.heap.size w (u w1)) := by
    intro b hb
    rcases Nat.lt_or_ge (Fl.rung b) (2047 * 2 ^ 52) with h | h
    · rw [decide_eq_false (by omega)]
      exact ⟨fun _ => 0, fun w => w, fun w => sub_self_run 29 hb h w, fun _ => zero_neq 29, fun _ _ p => p⟩
    · rw [decide_eq_true h]
      have q0 := run_arith_nan .sub 29 (.inr rfl) (sub_self_none hb h)
      exact ⟨fun w => (q0 w).choose, fun w => w.drew, fun w => (q0 w).choose_spec.1, fun w => neq_zero_nan 29 (q0 w).choose_spec.2.1, fun _ _ p => bel_drew p⟩
  obtain ⟨nv, u, g1, g2, g3⟩ := hsub x hx
  have G3 := Lib.hid g3
  clear g3
  cases hn : nan x with
  | true =>
    have hr : decide (2047 * 2 ^ 52 ≤ Fl.rung x) = true := decide_eq_true (by rw [Fl.nan_iff] at hn; unfold Fl.rung; omega)
    rw [hr] at g2
    rw [hn] at EC f5
    rw [show zer x = false by unfold zer; rw [hn]; rfl] at ez
    rw [canon_of_nan hn, show canon (Fl.flip Fl.QN) = Fl.QN by decide, show canon (ab Fl.QN) = Fl.QN by decide, inv_nan (x := Fl.QN) (by decide), inv_nan (x := Fl.QN) (by decide)] at EC
    obtain ⟨cc, n1, n2, b1, b2, i1, i2, ex, ei, ls⟩ := EC
    have CC := Lib.hid cc
    have N1 := Lib.hid n1
    have B1 := Lib.hid b1
    have I1 := Lib.hid i1
    have I2 := Lib.hid i2
    have N2 := Lib.hid n2
    have B2 := Lib.hid b2
    clear cc n1 b1 i1 i2 n2 b2 hr hn hx hy hsub
    generalize Fl.QN = q at *
    go_enter Try.func7, Try.ntmps7
    go_wp2_with fail
    refine (C0.out _).mono ?_
    rintro e v ⟨rfl, hb⟩
    replace p := bel_call p hb
    clear hb
    go_wp2_with fail
    refine (CC.out _).mono ?_
    rintro e v ⟨rfl, rfl⟩
    go_wp2_with fail
    refine (N1.out _).mono ?_
    rintro e v ⟨rfl, hb⟩
    replace p := bel_call p hb
    clear hb
    go_wp2_with fail
    refine (N2.out _).mono ?_
    rintro e v ⟨rfl, hb⟩
    replace p := bel_call p hb
    clear hb
    go_wp2_with fail
    refine (CS.out _ _).mono ?_
    rintro e v ⟨rfl, rfl⟩
    go_wp2_with fail
    refine (B1.out _).mono ?_
    rintro e v ⟨rfl, hb⟩
    replace p := bel_call p hb
    clear hb
    go_wp2_with fail
    refine (B2.out _).mono ?_
    rintro e v ⟨rfl, hb⟩
    replace p := bel_call p hb
    clear hb
    go_wp2_with fail
    refine (CS.out _ _).mono ?_
    rintro e v ⟨rfl, rfl⟩
    go_wp2_with fail
    refine (CS.out _ _).mono ?_
    rintro e v ⟨rfl, rfl⟩
    go_wp2_with fail
    refine (I1.out _).mono ?_
    rintro e v ⟨rfl, hb⟩
    replace p := bel_call p hb
    clear hb
    go_wp2_with fail
    refine (I2.out _).mono ?_
    rintro e v ⟨rfl, hb⟩
    replace p := G3.out _ _ (bel_call p hb)
    clear hb
    go_wp2_with fail
    refine (L1.out _).mono ?_
    rintro e v ⟨rfl, hb⟩
    replace p := bel_call p hb
    clear hb
    go_wp2_with fail
    refine (L2.out _).mono ?_
    rintro e v ⟨rfl, hb⟩
    replace p := bel_call (bel_alloc p _) hb
    clear hb
    go_wp2_with fail
    refine (L3.out _).mono ?_
    rintro e v ⟨rfl, hb⟩
    replace p := bel_call (bel_alloc p _) hb
    clear hb
    go_wp2_with fail
    go_ret
    exact ⟨rfl, bel_alloc p _⟩
  | false =>
    rw [hn] at EC f5
    have hcx : canon x = x := Fl.canon_num hn
    rw [hcx, Fl.canon_num ((Fl.flip_nan hx).trans hn), Fl.canon_num ((nan_ab x).trans hn)] at EC
    obtain ⟨cc, n1, n2, b1, b2, i1, i2, ex, ei, ls⟩ := EC
    have CC := Lib.hid cc
    have N1 := Lib.hid n1
    have B1 := Lib.hid b1
    have I1 := Lib.hid i1
    have I2 := Lib.hid i2
    have N2 := Lib.hid n2
    have B2 := Lib.hid b2
    have NE := Lib.hid (flip_ne (x := x))
    have hor := ab_or hx
    have hii := fun h => inv_inv hx h
    obtain ⟨nvi, ui, g4, g5, g6⟩ := hsub (inv x) (inv_lt x)
    have G6 := Lib.hid g6
    have hz1 : Fl.rung x = 0 → Fl.rung (inv x) = 2047 * 2 ^ 52 := fun h => by rw [inv_zero hx h, Fl.rung_word (by decide)]
    have hz2 : Fl.rung x = 2047 * 2 ^ 52 → Fl.rung (inv x) = 0 := fun h => by rw [inv_inf hx h, Fl.rung_word (by decide)]
    have hrx : Fl.rung x ≤ 2047 * 2 ^ 52 := Fl.nan_false.1 hn
    have hzx : zer x = decide (Fl.rung x = 0) := by unfold zer; rw [hn, ab_rung]; rfl
    rw [hzx] at ez
    clear cc n1 b1 i1 i2 n2 b2 hn hsub hzx hcx g6
    have hcase : (Fl.rung x = 0 ∧ Fl.rung (inv x) = 2047 * 2 ^ 52 ∧ inv (inv x) = x) ∨ (Fl.rung x = 2047 * 2 ^ 52 ∧ Fl.rung (inv x) = 0 ∧ inv (inv x) = x) ∨ (Fl.rung x ≠ 0 ∧ Fl.rung x < 2047 * 2 ^ 52) := by
      by_cases h0 : Fl.rung x = 0
      · exact .inl ⟨h0, hz1 h0, hii (.inl h0)⟩
      · by_cases h1 : Fl.rung x = 2047 * 2 ^ 52
        · exact .inr (.inl ⟨h1, hz2 h1, hii (.inr h1)⟩)
        · exact .inr (.inr ⟨h0, by omega⟩)
    clear hz1 hz2 hii hx hy hrx
    generalize inv (inv x) = J at *
    rcases hcase with ⟨r1, r2, hJ⟩ | ⟨r1, r2, hJ⟩ | ⟨r1, r2⟩
    · rw [hJ] at I2
      clear hJ
      rw [decide_eq_true r1] at ez
      rw [decide_eq_true (by omega)] at g5
      clear r1 r2 g1 g2
      rcases hor with h | ⟨h, h2⟩
      · rw [h] at B1 B2 ls
        clear h
        generalize inv x = I at *
        generalize Fl.flip x = A at *
        go_enter Try.func7, Try.ntmps7
        go_wp2_with fail
        refine (C0.out _).mono ?_
        rintro e v ⟨rfl, hb⟩
        replace p := bel_call p hb
        clear hb
        go_wp2_with fail
        refine (CC.out _).mono ?_
        rintro e v ⟨rfl, rfl⟩
        go_wp2_with fail
        refine (N1.out _).mono ?_
        rintro e v ⟨rfl, hb⟩
        replace p := bel_call p hb
        clear hb
        go_wp2_with fail
        refine (N2.out _).mono ?_
        rintro e v ⟨rfl, hb⟩
        replace p := bel_call p hb
        clear hb
        go_wp2_with fail
        refine (CS.out _ _).mono ?_
        rintro e v ⟨rfl, rfl⟩
        go_wp2_with fail
        refine (CF.out _ _ _ NE.out).mono ?_
        rintro e v ⟨rfl, rfl⟩
        go_wp2_with fail
        refine (B1.out _).mono ?_
        rintro e v ⟨rfl, hb⟩
        replace p := bel_call p hb
        clear hb
        go_wp2_with fail
        refine (B2.out _).mono ?_
        rintro e v ⟨rfl, hb⟩
        replace p := bel_call p hb
        clear hb
        go_wp2_with fail
        refine (CS.out _ _).mono ?_
        rintro e v ⟨rfl, rfl⟩
        go_wp2_with fail
        refine (CS.out _ _).mono ?_
        rintro e v ⟨rfl, rfl⟩
        go_wp2_with fail
        refine (I1.out _).mono ?_
        rintro e v ⟨rfl, hb⟩
        replace p := bel_call p hb
        clear hb
        go_wp2_with fail
        refine (I2.out _).mono ?_
        rintro e v ⟨rfl, hb⟩
        replace p := bel_call p hb
        clear hb
        go_wp2_with fail
        refine (CS.out _ _).mono ?_
        rintro e v ⟨rfl, rfl⟩
        replace p := G6.out _ _ p
        go_wp2_with fail
        refine (L1.out _).mono ?_
        rintro e v ⟨rfl, hb⟩
        replace p := bel_call p hb
        clear hb
        go_wp2_with fail
        refine (L2.out _).mono ?_
        rintro e v ⟨rfl, hb⟩
        replace p := bel_call (bel_alloc p _) hb
        clear hb
        go_wp2_with fail
        refine (L3.out _).mono ?_
        rintro e v ⟨rfl, hb⟩
        replace p := bel_call (bel_alloc p _) hb
        clear hb
        go_wp2_with fail
        go_ret
        exact ⟨rfl, bel_alloc p _⟩
      · have AB := Lib.hid h
        clear h
        rw [h2] at B1 B2 ls AB
        clear h2
        generalize inv x = I at *
        generalize Fl.flip x = A at *
        go_enter Try.func7, Try.ntmps7
        go_wp2_with fail
        refine (C0.out _).mono ?_
        rintro e v ⟨rfl, hb⟩
        replace p := bel_call p hb
        clear hb
        go_wp2_with fail
        refine (CC.out _).mono ?_
        rintro e v ⟨rfl, rfl⟩
        go_wp2_with fail
        refine (N1.out _).mono ?_
        rintro e v ⟨rfl, hb⟩
        replace p := bel_call p hb
        clear hb
        go_wp2_with fail
        refine (N2.out _).mono ?_
        rintro e v ⟨rfl, hb⟩
        replace p := bel_call p hb
        clear hb
        go_wp2_with fail
        refine (CS.out _ _).mono ?_
        rintro e v ⟨rfl, rfl⟩
        go_wp2_with fail
        refine (CF.out _ _ _ NE.out).mono ?_
        rintro e v ⟨rfl, rfl⟩
        go_wp2_with fail
        refine (B1.out _).mono ?_
        rintro e v ⟨rfl, hb⟩
        replace p := bel_call p hb
        clear hb
        go_wp2_with fail
        refine (B2.out _).mono ?_
        rintro e v ⟨rfl, hb⟩
        replace p := bel_call p hb
        clear hb
        go_wp2_with fail
        refine (CS.out _ _).mono ?_
        rintro e v ⟨rfl, rfl⟩
        go_wp2_with fail
        refine (CF.out _ _ _ AB.out).mono ?_
        rintro e v ⟨rfl, rfl⟩
        go_wp2_with fail
        refine (CS.out _ _).mono ?_
        rintro e v ⟨rfl, rfl⟩
        go_wp2_with fail
        refine (I1.out _).mono ?_
        rintro e v ⟨rfl, hb⟩
        replace p := bel_call p hb
        clear hb
        go_wp2_with fail
        refine (I2.out _).mono ?_
        rintro e v ⟨rfl, hb⟩
        replace p := bel_call p hb
        clear hb
        go_wp2_with fail
        refine (CS.out _ _).mono ?_
        rintro e v ⟨rfl, rfl⟩
        replace p := G6.out _ _ p
        go_wp2_with fail
        refine (L1.out _).mono ?_
        rintro e v ⟨rfl, hb⟩
        replace p := bel_call p hb
        clear hb
        go_wp2_with fail
        refine (L2.out _).mono ?_
        rintro e v ⟨rfl, hb⟩
        replace p := bel_call (bel_alloc p _) hb
        clear hb
        go_wp2_with fail
        refine (L3.out _).mono ?_
        rintro e v ⟨rfl, hb⟩
        replace p := bel_call (bel_alloc p _) hb
        clear hb
        go_wp2_with fail
        go_ret
        exact ⟨rfl, bel_alloc p _⟩
    · rw [hJ] at I2
      clear hJ
      rw [decide_eq_false (by omega)] at ez g5
      rw [decide_eq_true (by omega)] at g2
      clear r1 r2
      rcases hor with h | ⟨h, h2⟩
      · rw [h] at B1 B2 ls
        clear h
        generalize inv x = I at *
        generalize Fl.flip x = A at *
        go_enter Try.func7, Try.ntmps7
        go_wp2_with fail
        refine (C0.out _).mono ?_
        rintro e v ⟨rfl, hb⟩
        replace p := bel_call p hb
        clear hb
        go_wp2_with fail
        refine (CC.out _).mono ?_
        rintro e v ⟨rfl, rfl⟩
        go_wp2_with fail
        refine (N1.out _).mono ?_
        rintro e v ⟨rfl, hb⟩
        replace p := bel_call p hb
        clear hb
        go_wp2_with fail
        refine (N2.out _).mono ?_
        rintro e v ⟨rfl, hb⟩
        replace p := bel_call p hb
        clear hb
        go_wp2_with fail
        refine (CS.out _ _).mono ?_
        rintro e v ⟨rfl, rfl⟩
        go_wp2_with fail
        refine (CF.out _ _ _ NE.out).mono ?_
        rintro e v ⟨rfl, rfl⟩
        go_wp2_with fail
        refine (B1.out _).mono ?_
        rintro e v ⟨rfl, hb⟩
        replace p := bel_call p hb
        clear hb
        go_wp2_with fail
        refine (B2.out _).mono ?_
        rintro e v ⟨rfl, hb⟩
        replace p := bel_call p hb
        clear hb
        go_wp2_with fail
        refine (CS.out _ _).mono ?_
        rintro e v ⟨rfl, rfl⟩
        go_wp2_with fail
        refine (CS.out _ _).mono ?_
        rintro e v ⟨rfl, rfl⟩
        go_wp2_with fail
        refine (I1.out _).mono ?_
        rintro e v ⟨rfl, hb⟩
        replace p := bel_call p hb
        clear hb
        go_wp2_with fail
        refine (I2.out _).mono ?_
        rintro e v ⟨rfl, hb⟩
        replace p := G3.out _ _ (bel_call p hb)
        clear hb
        go_wp2_with fail
        refine (CS.out _ _).mono ?_
        rintro e v ⟨rfl, rfl⟩
        replace p := G6.out _ _ p
        go_wp2_with fail
        refine (L1.out _).mono ?_
        rintro e v ⟨rfl, hb⟩
        replace p := bel_call p hb
        clear hb
        go_wp2_with fail
        refine (L2.out _).mono ?_
        rintro e v ⟨rfl, hb⟩
        replace p := bel_call (bel_alloc p _) hb
        clear hb
        go_wp2_with fail
        refine (L3.out _).mono ?_
        rintro e v ⟨rfl, hb⟩
        replace p := bel_call (bel_alloc p _) hb
        clear hb
        go_wp2_with fail
        go_ret
        exact ⟨rfl, bel_alloc p _⟩
      · have AB := Lib.hid h
        clear h
        rw [h2] at B1 B2 ls AB
        clear h2
        generalize inv x = I at *
        generalize Fl.flip x = A at *
        go_enter Try.func7, Try.ntmps7
        go_wp2_with fail
        refine (C0.out _).mono ?_
        rintro e v ⟨rfl, hb⟩
        replace p := bel_call p hb
        clear hb
        go_wp2_with fail
        refine (CC.out _).mono ?_
        rintro e v ⟨rfl, rfl⟩
        go_wp2_with fail
        refine (N1.out _).mono ?_
        rintro e v ⟨rfl, hb⟩
        replace p := bel_call p hb
        clear hb
        go_wp2_with fail
        refine (N2.out _).mono ?_
        rintro e v ⟨rfl, hb⟩
        replace p := bel_call p hb
        clear hb
        go_wp2_with fail
        refine (CS.out _ _).mono ?_
        rintro e v ⟨rfl, rfl⟩
        go_wp2_with fail
        refine (CF.out _ _ _ NE.out).mono ?_
        rintro e v ⟨rfl, rfl⟩
        go_wp2_with fail
        refine (B1.out _).mono ?_
        rintro e v ⟨rfl, hb⟩
        replace p := bel_call p hb
        clear hb
        go_wp2_with fail
        refine (B2.out _).mono ?_
        rintro e v ⟨rfl, hb⟩
        replace p := bel_call p hb
        clear hb
        go_wp2_with fail
        refine (CS.out _ _).mono ?_
        rintro e v ⟨rfl, rfl⟩
        go_wp2_with fail
        refine (CF.out _ _ _ AB.out).mono ?_
        rintro e v ⟨rfl, rfl⟩
        go_wp2_with fail
        refine (CS.out _ _).mono ?_
        rintro e v ⟨rfl, rfl⟩
        go_wp2_with fail
        refine (I1.out _).mono ?_
        rintro e v ⟨rfl, hb⟩
        replace p := bel_call p hb
        clear hb
        go_wp2_with fail
        refine (I2.out _).mono ?_
        rintro e v ⟨rfl, hb⟩
        replace p := G3.out _ _ (bel_call p hb)
        clear hb
        go_wp2_with fail
        refine (CS.out _ _).mono ?_
        rintro e v ⟨rfl, rfl⟩
        replace p := G6.out _ _ p
        go_wp2_with fail
        refine (L1.out _).mono ?_
        rintro e v ⟨rfl, hb⟩
        replace p := bel_call p hb
        clear hb
        go_wp2_with fail
        refine (L2.out _).mono ?_
        rintro e v ⟨rfl, hb⟩
        replace p := bel_call (bel_alloc p _) hb
        clear hb
        go_wp2_with fail
        refine (L3.out _).mono ?_
        rintro e v ⟨rfl, hb⟩
        replace p := bel_call (bel_alloc p _) hb
        clear hb
        go_wp2_with fail
        go_ret
        exact ⟨rfl, bel_alloc p _⟩
    · rw [decide_eq_false r1] at ez
      rw [decide_eq_false (by omega)] at g2
      clear r1 r2 g4 g5
      rcases hor with h | ⟨h, h2⟩
      · rw [h] at B1 B2 ls
        clear h
        generalize inv x = I at *
        generalize Fl.flip x = A at *
        go_enter Try.func7, Try.ntmps7
        go_wp2_with fail
        refine (C0.out _).mono ?_
        rintro e v ⟨rfl, hb⟩
        replace p := bel_call p hb
        clear hb
        go_wp2_with fail
        refine (CC.out _).mono ?_
        rintro e v ⟨rfl, rfl⟩
        go_wp2_with fail
        refine (N1.out _).mono ?_
        rintro e v ⟨rfl, hb⟩
        replace p := bel_call p hb
        clear hb
        go_wp2_with fail
        refine (N2.out _).mono ?_
        rintro e v ⟨rfl, hb⟩
        replace p := bel_call p hb
        clear hb
        go_wp2_with fail
        refine (CS.out _ _).mono ?_
        rintro e v ⟨rfl, rfl⟩
        go_wp2_with fail
        refine (CF.out _ _ _ NE.out).mono ?_
        rintro e v ⟨rfl, rfl⟩
        go_wp2_with fail
        refine (B1.out _).mono ?_
        rintro e v ⟨rfl, hb⟩
        replace p := bel_call p hb
        clear hb
        go_wp2_with fail
        refine (B2.out _).mono ?_
        rintro e v ⟨rfl, hb⟩
        replace p := bel_call p hb
        clear hb
        go_wp2_with fail
        refine (CS.out _ _).mono ?_
        rintro e v ⟨rfl, rfl⟩
        go_wp2_with fail
        refine (CS.out _ _).mono ?_
        rintro e v ⟨rfl, rfl⟩
        go_wp2_with fail
        refine (I1.out _).mono ?_
        rintro e v ⟨rfl, hb⟩
        replace p := bel_call p hb
        clear hb
        go_wp2_with fail
        refine (I2.out _).mono ?_
        rintro e v ⟨rfl, hb⟩
        replace p := G3.out _ _ (bel_call p hb)
        clear hb
        go_wp2_with fail
        refine (L1.out _).mono ?_
        rintro e v ⟨rfl, hb⟩
        replace p := bel_call p hb
        clear hb
        go_wp2_with fail
        refine (L2.out _).mono ?_
        rintro e v ⟨rfl, hb⟩
        replace p := bel_call (bel_alloc p _) hb
        clear hb
        go_wp2_with fail
        refine (L3.out _).mono ?_
        rintro e v ⟨rfl, hb⟩
        replace p := bel_call (bel_alloc p _) hb
        clear hb
        go_wp2_with fail
        go_ret
        exact ⟨rfl, bel_alloc p _⟩
      · have AB := Lib.hid h
        clear h
        rw [h2] at B1 B2 ls AB
        clear h2
        generalize inv x = I at *
        generalize Fl.flip x = A at *
        go_enter Try.func7, Try.ntmps7
        go_wp2_with fail
        refine (C0.out _).mono ?_
        rintro e v ⟨rfl, hb⟩
        replace p := bel_call p hb
        clear hb
        go_wp2_with fail
        refine (CC.out _).mono ?_
        rintro e v ⟨rfl, rfl⟩
        go_wp2_with fail
        refine (N1.out _).mono ?_
        rintro e v ⟨rfl, hb⟩
        replace p := bel_call p hb
        clear hb
        go_wp2_with fail
        refine (N2.out _).mono ?_
        rintro e v ⟨rfl, hb⟩
        replace p := bel_call p hb
        clear hb
        go_wp2_with fail
        refine (CS.out _ _).mono ?_
        rintro e v ⟨rfl, rfl⟩
        go_wp2_with fail
        refine (CF.out _ _ _ NE.out).mono ?_
        rintro e v ⟨rfl, rfl⟩
        go_wp2_with fail
        refine (B1.out _).mono ?_
        rintro e v ⟨rfl, hb⟩
        replace p := bel_call p hb
        clear hb
        go_wp2_with fail
        refine (B2.out _).mono ?_
        rintro e v ⟨rfl, hb⟩
        replace p := bel_call p hb
        clear hb
        go_wp2_with fail
        refine (CS.out _ _).mono ?_
        rintro e v ⟨rfl, rfl⟩
        go_wp2_with fail
        refine (CF.out _ _ _ AB.out).mono ?_
        rintro e v ⟨rfl, rfl⟩
        go_wp2_with fail
        refine (CS.out _ _).mono ?_
        rintro e v ⟨rfl, rfl⟩
        go_wp2_with fail
        refine (I1.out _).mono ?_
        rintro e v ⟨rfl, hb⟩
        replace p := bel_call p hb
        clear hb
        go_wp2_with fail
        refine (I2.out _).mono ?_
        rintro e v ⟨rfl, hb⟩
        replace p := G3.out _ _ (bel_call p hb)
        clear hb
        go_wp2_with fail
        refine (L1.out _).mono ?_
        rintro e v ⟨rfl, hb⟩
        replace p := bel_call p hb
        clear hb
        go_wp2_with fail
        refine (L2.out _).mono ?_
        rintro e v ⟨rfl, hb⟩
        replace p := bel_call (bel_alloc p _) hb
        clear hb
        go_wp2_with fail
        refine (L3.out _).mono ?_
        rintro e v ⟨rfl, hb⟩
        replace p := bel_call (bel_alloc p _) hb
        clear hb
        go_wp2_with fail
        go_ret
        exact ⟨rfl, bel_alloc p _⟩
end Go.Proofs.Ytgcbjpdmnlanoaa
