/- WALK of OpsTraps. -/
import Derived.Test.YtgcbjpdmnlanoaaOpsK
namespace Go.Proofs.Ytgcbjpdmnlanoaa
open Go.RowKit
open Fl (nan key canon)
theorem rung_canon_inf (x : Nat) : 2047 * 2 ^ 52 ≤ Fl.rung (canon x) ↔ 2047 * 2 ^ 52 ≤ Fl.rung x := by
  cases h : nan x
  · rw [Fl.canon_num h]
  · have h2 := Fl.nan_iff.1 h
    rw [canon_of_nan h]
    constructor
    · intro _; unfold Fl.rung; omega
    · intro _; decide
theorem whole_canon (x : Nat) : Fl.whole (canon x) = Fl.whole x := by
  cases h : nan x
  · rw [Fl.canon_num h]
  · rw [canon_of_nan h]; unfold Fl.whole; rw [h]; rfl
theorem one_need_trap {x : Nat} (h : 2047 * 2 ^ 52 ≤ Fl.rung x) : one ⟨9, 0, 0⟩ ⟨9, x⟩ = (⟨0, 0⟩, 3) :=
  one_else (o := ⟨9, 0, 0⟩) (r := ⟨9, x⟩) rfl (by unfold fate; dsimp only; rw [if_neg (show ¬ (9 : Int) = 1 by decide), if_neg (show ¬ (9 : Int) = 2 by decide), if_neg (show ¬ (9 : Int) = 3 by decide), if_pos rfl, if_pos ((rung_canon_inf x).2 h)]) (by decide)
theorem one_need_keep {x : Nat} (h : Fl.rung x < 2047 * 2 ^ 52) : one ⟨9, 0, 0⟩ ⟨9, x⟩ = (⟨9, x⟩, 1) := by
  have hn : nan x = false := by rw [Fl.nan_false]; unfold Fl.rung at h; omega
  have hc : canon x = x := Fl.canon_num hn
  rw [one_yes (o := ⟨9, 0, 0⟩) (r := ⟨9, x⟩) rfl (by unfold fate; dsimp only; rw [if_neg (show ¬ (9 : Int) = 1 by decide), if_neg (show ¬ (9 : Int) = 2 by decide), if_neg (show ¬ (9 : Int) = 3 by decide), if_pos rfl, hc, if_neg (by omega)])]
  dsimp only
  rw [hc]
  rfl
theorem one_per_trap {n : Int} {x : Nat} (h : Fl.whole x = 0) : one ⟨10, n, 0⟩ ⟨9, x⟩ = (⟨0, 0⟩, 3) :=
  one_else (o := ⟨10, n, 0⟩) (r := ⟨9, x⟩) rfl (by unfold fate; dsimp only; rw [if_neg (show ¬ (10 : Int) = 1 by decide), if_neg (show ¬ (10 : Int) = 2 by decide), if_neg (show ¬ (10 : Int) = 3 by decide), if_neg (show ¬ (10 : Int) = 9 by decide), if_pos rfl, whole_canon, if_pos h]) (by decide)
theorem one_per_keep {n : Int} {x : Nat} (h : ¬ Fl.whole x = 0) : one ⟨10, n, 0⟩ ⟨9, x⟩ = (⟨9, floatOfInt .f64 (wrap64 (n.tdiv (Fl.whole x)))⟩, 1) := by
  rw [one_yes (o := ⟨10, n, 0⟩) (r := ⟨9, x⟩) rfl (by unfold fate; dsimp only; rw [if_neg (show ¬ (10 : Int) = 1 by decide), if_neg (show ¬ (10 : Int) = 2 by decide), if_neg (show ¬ (10 : Int) = 3 by decide), if_neg (show ¬ (10 : Int) = 9 by decide), if_pos rfl, whole_canon, if_neg h])]
  unfold nval nkey
  dsimp only
  rw [if_neg (show ¬ (10 : Int) = 4 by decide), if_neg (show ¬ (10 : Int) = 5 by decide), if_neg (show ¬ (10 : Int) = 6 by decide), if_neg (show ¬ (10 : Int) = 7 by decide), if_neg (show ¬ (10 : Int) = 8 by decide), if_pos rfl, whole_canon, if_neg (show ¬ (10 : Int) = 11 by decide), if_neg (show ¬ (10 : Int) = 12 by decide)]
/-- the rung of 2^52 -/
theorem val_2p52 {r : Nat} (hr : r = 1075 * 2 ^ 52) : Fl.val r = 2 ^ 52 * Fl.U := by
  obtain ⟨K, hK⟩ : ∃ K, K = 1074 := ⟨_, rfl⟩
  rw [Fl.U_of hK]
  unfold Fl.val
  rw [if_neg (by omega), show r / 2 ^ 52 - 1 = K by omega, show r % 2 ^ 52 = 0 by omega, Nat.add_zero]
  rfl
theorem floor_ofInt_any (m : Int) : floor (floatOfInt .f64 m) = floatOfInt .f64 m := by
  by_cases h : m.natAbs ≤ 2 ^ 53
  · exact Fl.floor_ofInt h
  · obtain ⟨r, hr⟩ : ∃ r, r = 1075 * 2 ^ 52 := ⟨_, rfl⟩
    have h1 : Fl.rv (2 ^ 52 * Fl.U) ≤ Fl.rv (m.natAbs * Fl.U) := Fl.rv_mono (Nat.mul_le_mul_right _ (by omega))
    rw [← val_2p52 hr, Fl.rv_exact (by omega)] at h1
    have h2 := Fl.rung_ex (b := floatOfInt .f64 m)
    rw [Fl.ofInt_rung] at h2
    exact floor_itself (Fl.ofInt_lt m) (Fl.nan_ofInt m) (.inr (by omega))
theorem key_flip {b : Nat} (hb : b < 2 ^ 64) : key (Fl.flip b) = -key b := by
  rw [Fl.neg_rung (Fl.flip_lt hb), Fl.neg_rung hb, Fl.flip_neg hb, Fl.flip_rung hb]
  cases Fl.neg b <;> simp
theorem quot_le {n W : Int} (h1 : -9223372036854775808 ≤ n) (h2 : n ≤ 9223372036854775807) : (wrap64 (n.tdiv W)).natAbs ≤ n.natAbs := by
  have h : (n.tdiv W).natAbs = n.natAbs / W.natAbs := Int.natAbs_tdiv n W
  have h3 := Nat.div_le_self n.natAbs W.natAbs
  unfold wrap64
  omega
theorem rc9 {x : Nat} (hx : x < 2 ^ 64) : Rc.ok ⟨9, x⟩ := ⟨by show (0 : Int) ≤ 9; decide, by show (9 : Int) ≤ 18446744073709551615; decide, hx⟩
theorem key_ofInt_neg (a : Int) : key (floatOfInt .f64 (-a)) = -key (floatOfInt .f64 a) := by
  rw [Fl.key_ofInt, Fl.key_ofInt, Int.natAbs_neg]
  have h0 : a = 0 → Fl.rv (a.natAbs * Fl.U) = 0 := fun h => by rw [h, Int.natAbs_zero, Nat.zero_mul, Fl.rv_small (Nat.two_pow_pos 53)]
  generalize Fl.rv (a.natAbs * Fl.U) = x at *
  by_cases h1 : a < 0
  · rw [if_neg (by omega), if_pos h1]; omega
  · by_cases h2 : a = 0
    · have := h0 h2; rw [if_neg (by omega), if_neg (by omega)]; omega
    · rw [if_pos (by omega), if_neg (by omega)]
theorem abs_ofInt (n : Int) : (n < 0 → Fl.flip (floatOfInt .f64 n) = floatOfInt .f64 (-n)) := fun h => Fl.flip_ofInt (by omega)
set_option maxRecDepth 100000 in
set_option maxHeartbeats 1000000 in
theorem lstep_any (kd n : Int) (x : Nat) (w : World) (ho : Stp.ok ⟨kd, n, 0⟩) (hx : x < 2 ^ 64) :
    Calls Try.prog 22 #[.int .i64 kd, .int .i64 n, .float .f64 x] w fun e w' => e = .returned (.tuple #[.float .f64 (one ⟨kd, n, 0⟩ ⟨9, x⟩).1.val, .int .i64 (one ⟨kd, n, 0⟩ ⟨9, x⟩).2]) ∧ Below w.heap.size w w' := by
  have C1 := Lib.hid (fun w => one_any' ⟨kd, n, 0⟩ ⟨9, x⟩ w ho (rc9 hx) _ rfl)
  generalize one ⟨kd, n, 0⟩ ⟨9, x⟩ = T at *
  obtain ⟨⟨tk, tv⟩, tf⟩ := T
  clear ho hx
  dsimp only at *
  go_enter Try.func22, Try.ntmps22
  go_wp2_with fail
  refine (C1.out _).mono ?_
  rintro e w1 ⟨rfl, hb⟩
  have p1 : Below w.heap.size w w1 := (by repeat' (first | with_reducible exact Below.refl _ _ | with_reducible assumption | with_reducible refine bel_drew ?_ | with_reducible refine bel_alloc ?_ _ | with_reducible refine bel_set ?_ ?_ _ | with_reducible refine bel_call ?_ (by assumption) | (dsimp only; omega) | (simp; done) | (simp; omega)))
  clear hb
  go_wp2_with fail
  go_ret2
  exact ⟨rfl, (by repeat' (first | with_reducible exact Below.refl _ _ | with_reducible assumption | with_reducible refine bel_drew ?_ | with_reducible refine bel_alloc ?_ _ | with_reducible refine bel_set ?_ ?_ _ | with_reducible refine bel_call ?_ (by assumption) | (dsimp only; omega) | (simp; done) | (simp; omega)))⟩
set_option maxRecDepth 100000 in
set_option maxHeartbeats 16000000 in
theorem traps_any (x : Nat) (n : Int) (w : World) (hx : x < 2 ^ 64) (hn1 : -9223372036854775808 ≤ n) (hn2 : n ≤ 9223372036854775807) :
    Calls Try.prog 8 #[.float .f64 x, .int .i64 n] w fun e w' => e = .returned (.bool true) ∧ Below w.heap.size w w' := by
  have C0 := Lib.hid oawake_any
  have CS : Hid (∀ a w, Calls Try.prog 23 #[.float .f64 a, .float .f64 a] w fun e w' => e = .returned (.bool true) ∧ w = w') := Lib.hid (fun a w => by have c := rsame_any a a w; rw [decide_eq_true rfl] at c; exact c)
  have c1 := fun w => lstep_any 9 0 x w (stp_ok (by decide) (by decide) (by decide) (by decide)) hx
  have c2 := fun w => lstep_any 10 n x w (stp_ok (by decide) (by decide) hn1 hn2) hx
  have CW := Lib.hid (fun w => fwhole_any x w hx)
  have hsub : ∃ (nv : World → Nat) (u : World → World) (b : Bool), (∀ w, (binOp .sub 29 (.float .f64 x) (.float .f64 x)).run Try.prog w = .ok (.float .f64 (nv w)) (u w)) ∧ (∀ w, binOp .neq 29 (.float .f64 (nv w)) (.float .f64 0) = pure (.bool b)) ∧ (∀ w, u w = w ∨ u w = w.drew) ∧ ((b = true ∧ one ⟨9, 0, 0⟩ ⟨9, x⟩ = (⟨0, 0⟩, 3)) ∨ (b = false ∧ one ⟨9, 0, 0⟩ ⟨9, x⟩ = (⟨9, x⟩, 1))) := by
    rcases Nat.lt_or_ge (Fl.rung x) (2047 * 2 ^ 52) with h | h
    · exact ⟨fun _ => 0, fun w => w, false, fun w => sub_self_run 29 hx h w, fun _ => zero_neq 29, fun _ => .inl rfl, .inr ⟨rfl, one_need_keep h⟩⟩
    · have q0 := run_arith_nan .sub 29 (.inr rfl) (sub_self_none hx h)
      exact ⟨fun w => (q0 w).choose, fun w => w.drew, true, fun w => (q0 w).choose_spec.1, fun w => neq_zero_nan 29 (q0 w).choose_spec.2.1, fun _ => .inr rfl, .inl ⟨rfl, one_need_trap h⟩⟩
  obtain ⟨nv, u, b, g1, g2, g3, g4⟩ := hsub
  have G3 : Hid (∀ w w1, Below w.heap.size w w1 → Below w.heap.size w (u w1)) := Lib.hid (fun w w1 p => by
    rcases g3 w1 with h | h
    · rw [h]; exact p
    · rw [h]; exact bel_drew p)
  have hper : (Fl.whole x = 0 ∧ one ⟨10, n, 0⟩ ⟨9, x⟩ = (⟨0, 0⟩, 3)) ∨ (¬ Fl.whole x = 0 ∧ one ⟨10, n, 0⟩ ⟨9, x⟩ = (⟨9, floatOfInt .f64 (wrap64 (n.tdiv (Fl.whole x)))⟩, 1)) := by
    by_cases h : Fl.whole x = 0
    · exact .inl ⟨h, one_per_trap h⟩
    · exact .inr ⟨h, one_per_keep h⟩
  have hq := quot_le (W := Fl.whole x) hn1 hn2
  generalize wrap64 (n.tdiv (Fl.whole x)) = m at *
  generalize Fl.whole x = W at *
  have CO := Lib.hid (fun w => of_any n w)
  have p : Below w.heap.size w w := Below.refl _ _
  have s0 := lss_num 29 (b := 0) (Fl.ofInt_lt n) (by decide) (Fl.nan_ofInt n) (by decide)
  rw [show decide (key (floatOfInt .f64 n) < key 0) = decide (n < 0) from decide_eq_decide.2 (by rw [show key 0 = 0 by decide]; exact Fl.key_neg n)] at s0
  rcases g4 with ⟨rfl, h9⟩ | ⟨rfl, h9⟩ <;> rcases hper with ⟨rfl, h10⟩ | ⟨hW, h10⟩
  all_goals
    rw [h9] at c1
    rw [h10] at c2
    dsimp only at c1 c2
    have C1 := Lib.hid c1
    have C2 := Lib.hid c2
    clear c1 c2 h9 h10 g3
  case inl.inl =>
    clear hq s0 CO
    go_enter Try.func8, Try.ntmps8
    go_wp2_with fail
    refine (C0.out _).mono ?_
    rintro e w1 ⟨rfl, hb⟩
    replace p := bel_call p hb
    clear hb
    go_wp2_with fail
    refine (C1.out _).mono ?_
    rintro e w2 ⟨rfl, hb⟩
    replace p := G3.out _ _ (G3.out _ _ (bel_call p hb))
    clear hb
    go_wp2_with fail
    refine (CS.out _ _).mono ?_
    rintro e v ⟨rfl, rfl⟩
    go_wp2_with fail
    refine (CW.out _).mono ?_
    rintro e v ⟨rfl, rfl⟩
    go_wp2_with fail
    refine (C2.out _).mono ?_
    rintro e w3 ⟨rfl, hb⟩
    replace p := bel_call p hb
    clear hb
    go_wp2_with fail
    refine (CS.out _ _).mono ?_
    rintro e v ⟨rfl, rfl⟩
    go_wp2_with fail
    go_ret
    exact ⟨rfl, p⟩
  case inr.inl =>
    clear hq s0 CO
    go_enter Try.func8, Try.ntmps8
    go_wp2_with fail
    refine (C0.out _).mono ?_
    rintro e w1 ⟨rfl, hb⟩
    replace p := bel_call p hb
    clear hb
    go_wp2_with fail
    refine (C1.out _).mono ?_
    rintro e w2 ⟨rfl, hb⟩
    replace p := G3.out _ _ (G3.out _ _ (bel_call p hb))
    clear hb
    go_wp2_with fail
    refine (CS.out _ _).mono ?_
    rintro e v ⟨rfl, rfl⟩
    go_wp2_with fail
    refine (CW.out _).mono ?_
    rintro e v ⟨rfl, rfl⟩
    go_wp2_with fail
    refine (C2.out _).mono ?_
    rintro e w3 ⟨rfl, hb⟩
    replace p := bel_call p hb
    clear hb
    go_wp2_with fail
    refine (CS.out _ _).mono ?_
    rintro e v ⟨rfl, rfl⟩
    go_wp2_with fail
    go_ret
    exact ⟨rfl, p⟩
  case inl.inr =>
    have hw0 : (W == 0) = false := beq_eq_false_iff_ne.2 hW
    have hw1 : (W != 0) = true := by rw [bne_iff_ne]; exact hW
    have CFm := Lib.hid (fun w => ffloor_any (floatOfInt .f64 m) w (Fl.ofInt_lt m))
    rw [floor_ofInt_any] at CFm
    obtain ⟨S, hS1, hS2, hS3, hS4⟩ : ∃ S, S < 2 ^ 64 ∧ nan S = false ∧ key S = key (floatOfInt .f64 (n.natAbs : Int)) ∧ S = (if n < 0 then Fl.flip (floatOfInt .f64 n) else floatOfInt .f64 n) := by
      by_cases h : n < 0
      · refine ⟨_, Fl.flip_lt (Fl.ofInt_lt n), (Fl.flip_nan (Fl.ofInt_lt n)).trans (Fl.nan_ofInt n), ?_, (if_pos h).symm⟩
        rw [Fl.flip_ofInt (by omega), show ((n.natAbs : Nat) : Int) = -n by omega]
      · refine ⟨_, Fl.ofInt_lt n, Fl.nan_ofInt n, ?_, (if_neg h).symm⟩
        rw [show ((n.natAbs : Nat) : Int) = n by omega]
    have km1 := Fl.key_mono (n := m) (m := (n.natAbs : Int)) (by omega)
    have km2 := Fl.key_mono (n := -(n.natAbs : Int)) (m := m) (by omega)
    rw [key_ofInt_neg] at km2
    have l1 := leq_num 29 (Fl.ofInt_lt m) hS1 (Fl.nan_ofInt m) hS2
    have l2 := geq_num 29 (Fl.ofInt_lt m) (Fl.flip_lt hS1) (Fl.nan_ofInt m) ((Fl.flip_nan hS1).trans hS2)
    rw [decide_eq_true (by omega)] at l1
    rw [key_flip hS1, decide_eq_true (by omega)] at l2
    have u1 := unary_neg (Fl.ofInt_lt n)
    have u2 := unary_neg hS1
    clear hS1 hS2 hS3 km1 km2 hq hW
    by_cases h : n < 0
    · rw [if_pos h] at hS4
      rw [← hS4] at u1
      rw [decide_eq_true h] at s0
      clear hS4 h
      generalize floatOfInt .f64 m = fm at *
      generalize floatOfInt .f64 n = fn at *
      generalize Fl.flip S = fs at *
      go_enter Try.func8, Try.ntmps8
      go_wp2_with fail
      refine (C0.out _).mono ?_
      rintro e w1 ⟨rfl, hb⟩
      replace p := bel_call p hb
      clear hb
      go_wp2_with fail
      refine (C1.out _).mono ?_
      rintro e w2 ⟨rfl, hb⟩
      replace p := G3.out _ _ (G3.out _ _ (bel_call p hb))
      clear hb
      go_wp2_with fail
      refine (CS.out _ _).mono ?_
      rintro e v ⟨rfl, rfl⟩
      go_wp2_with fail
      refine (CW.out _).mono ?_
      rintro e v ⟨rfl, rfl⟩
      go_wp2_with fail
      refine (C2.out _).mono ?_
      rintro e w3 ⟨rfl, hb⟩
      replace p := bel_call p hb
      clear hb
      go_wp2_with fail
      refine (CO.out _).mono ?_
      rintro e v ⟨rfl, rfl⟩
      go_wp2_with fail
      refine (CFm.out _).mono ?_
      rintro e w4 ⟨rfl, hb⟩
      replace p := bel_call p hb
      clear hb
      go_wp2_with fail
      refine (CS.out _ _).mono ?_
      rintro e v ⟨rfl, rfl⟩
      go_wp2_with fail
      go_ret
      exact ⟨rfl, p⟩
    · rw [if_neg h] at hS4
      subst hS4
      rw [decide_eq_false h] at s0
      clear h
      generalize floatOfInt .f64 m = fm at *
      generalize Fl.flip (floatOfInt .f64 n) = fs at *
      generalize floatOfInt .f64 n = fn at *
      go_enter Try.func8, Try.ntmps8
      go_wp2_with fail
      refine (C0.out _).mono ?_
      rintro e w1 ⟨rfl, hb⟩
      replace p := bel_call p hb
      clear hb
      go_wp2_with fail
      refine (C1.out _).mono ?_
      rintro e w2 ⟨rfl, hb⟩
      replace p := G3.out _ _ (G3.out _ _ (bel_call p hb))
      clear hb
      go_wp2_with fail
      refine (CS.out _ _).mono ?_
      rintro e v ⟨rfl, rfl⟩
      go_wp2_with fail
      refine (CW.out _).mono ?_
      rintro e v ⟨rfl, rfl⟩
      go_wp2_with fail
      refine (C2.out _).mono ?_
      rintro e w3 ⟨rfl, hb⟩
      replace p := bel_call p hb
      clear hb
      go_wp2_with fail
      refine (CO.out _).mono ?_
      rintro e v ⟨rfl, rfl⟩
      go_wp2_with fail
      refine (CFm.out _).mono ?_
      rintro e w4 ⟨rfl, hb⟩
      replace p := bel_call p hb
      clear hb
      go_wp2_with fail
      refine (CS.out _ _).mono ?_
      rintro e v ⟨rfl, rfl⟩
      go_wp2_with fail
      go_ret
      exact ⟨rfl, p⟩
  case inr.inr =>
    have hw0 : (W == 0) = false := beq_eq_false_iff_ne.2 hW
    have hw1 : (W != 0) = true := by rw [bne_iff_ne]; exact hW
    have CFm := Lib.hid (fun w => ffloor_any (floatOfInt .f64 m) w (Fl.ofInt_lt m))
    rw [floor_ofInt_any] at CFm
    obtain ⟨S, hS1, hS2, hS3, hS4⟩ : ∃ S, S < 2 ^ 64 ∧ nan S = false ∧ key S = key (floatOfInt .f64 (n.natAbs : Int)) ∧ S = (if n < 0 then Fl.flip (floatOfInt .f64 n) else floatOfInt .f64 n) := by
      by_cases h : n < 0
      · refine ⟨_, Fl.flip_lt (Fl.ofInt_lt n), (Fl.flip_nan (Fl.ofInt_lt n)).trans (Fl.nan_ofInt n), ?_, (if_pos h).symm⟩
        rw [Fl.flip_ofInt (by omega), show ((n.natAbs : Nat) : Int) = -n by omega]
      · refine ⟨_, Fl.ofInt_lt n, Fl.nan_ofInt n, ?_, (if_neg h).symm⟩
        rw [show ((n.natAbs : Nat) : Int) = n by omega]
    have km1 := Fl.key_mono (n := m) (m := (n.natAbs : Int)) (by omega)
    have km2 := Fl.key_mono (n := -(n.natAbs : Int)) (m := m) (by omega)
    rw [key_ofInt_neg] at km2
    have l1 := leq_num 29 (Fl.ofInt_lt m) hS1 (Fl.nan_ofInt m) hS2
    have l2 := geq_num 29 (Fl.ofInt_lt m) (Fl.flip_lt hS1) (Fl.nan_ofInt m) ((Fl.flip_nan hS1).trans hS2)
    rw [decide_eq_true (by omega)] at l1
    rw [key_flip hS1, decide_eq_true (by omega)] at l2
    have u1 := unary_neg (Fl.ofInt_lt n)
    have u2 := unary_neg hS1
    clear hS1 hS2 hS3 km1 km2 hq hW
    by_cases h : n < 0
    · rw [if_pos h] at hS4
      rw [← hS4] at u1
      rw [decide_eq_true h] at s0
      clear hS4 h
      generalize floatOfInt .f64 m = fm at *
      generalize floatOfInt .f64 n = fn at *
      generalize Fl.flip S = fs at *
      go_enter Try.func8, Try.ntmps8
      go_wp2_with fail
      refine (C0.out _).mono ?_
      rintro e w1 ⟨rfl, hb⟩
      replace p := bel_call p hb
      clear hb
      go_wp2_with fail
      refine (C1.out _).mono ?_
      rintro e w2 ⟨rfl, hb⟩
      replace p := G3.out _ _ (G3.out _ _ (bel_call p hb))
      clear hb
      go_wp2_with fail
      refine (CS.out _ _).mono ?_
      rintro e v ⟨rfl, rfl⟩
      go_wp2_with fail
      refine (CW.out _).mono ?_
      rintro e v ⟨rfl, rfl⟩
      go_wp2_with fail
      refine (C2.out _).mono ?_
      rintro e w3 ⟨rfl, hb⟩
      replace p := bel_call p hb
      clear hb
      go_wp2_with fail
      refine (CO.out _).mono ?_
      rintro e v ⟨rfl, rfl⟩
      go_wp2_with fail
      refine (CFm.out _).mono ?_
      rintro e w4 ⟨rfl, hb⟩
      replace p := bel_call p hb
      clear hb
      go_wp2_with fail
      refine (CS.out _ _).mono ?_
      rintro e v ⟨rfl, rfl⟩
      go_wp2_with fail
      go_ret
      exact ⟨rfl, p⟩
    · rw [if_neg h] at hS4
      subst hS4
      rw [decide_eq_false h] at s0
      clear h
      generalize floatOfInt .f64 m = fm at *
      generalize Fl.flip (floatOfInt .f64 n) = fs at *
      generalize floatOfInt .f64 n = fn at *
      go_enter Try.func8, Try.ntmps8
      go_wp2_with fail
      refine (C0.out _).mono ?_
      rintro e w1 ⟨rfl, hb⟩
      replace p := bel_call p hb
      clear hb
      go_wp2_with fail
      refine (C1.out _).mono ?_
      rintro e w2 ⟨rfl, hb⟩
      replace p := G3.out _ _ (G3.out _ _ (bel_call p hb))
      clear hb
      go_wp2_with fail
      refine (CS.out _ _).mono ?_
      rintro e v ⟨rfl, rfl⟩
      go_wp2_with fail
      refine (CW.out _).mono ?_
      rintro e v ⟨rfl, rfl⟩
      go_wp2_with fail
      refine (C2.out _).mono ?_
      rintro e w3 ⟨rfl, hb⟩
      replace p := bel_call p hb
      clear hb
      go_wp2_with fail
      refine (CO.out _).mono ?_
      rintro e v ⟨rfl, rfl⟩
      go_wp2_with fail
      refine (CFm.out _).mono ?_
      rintro e w4 ⟨rfl, hb⟩
      replace p := bel_call p hb
      clear hb
      go_wp2_with fail
      refine (CS.out _ _).mono ?_
      rintro e v ⟨rfl, rfl⟩
      go_wp2_with fail
      go_ret
      exact ⟨rfl, p⟩
end Go.Proofs.Ytgcbjpdmnlanoaa
