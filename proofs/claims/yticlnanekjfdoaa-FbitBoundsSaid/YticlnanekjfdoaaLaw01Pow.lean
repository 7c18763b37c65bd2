/- WALK of FbitPowers. -/
import Derived.Test.YticlnanekjfdoaaFloat7
namespace Go.Proofs.Yticlnanekjfdoaa
open Go.RowKit
open Fl (nan key canon)
theorem cut_nan (a r : Nat) (ha : a < 2) (hr : r < 2 ^ 52 - 1) : 2047 * 2 ^ 52 < (a * 2 ^ 63 + 9218868437227405312 + 1 + r) % 2 ^ 63 ∧ a * 2 ^ 63 + 9218868437227405312 + 1 + r < 2 ^ 64 := by
  have h : a = 0 ∨ a = 1 := by omega
  rcases h with rfl | rfl <;> omega
theorem unary_neg {b : Nat} (hb : b < 2 ^ 64) : Op.unary .neg (.float .f64 b) = pure (.float .f64 (Fl.flip b)) := by
  show pure (Value.float .f64 (Op.negFloat .f64 b)) = _
  rw [Fl.flip_xor hb]
theorem run_arith_nan (op : BinOp) (t : TypeId) {x y : Nat} (hop : op = .add ∨ op = .sub) (h : floatBits op .f64 x y = none) (w : World) : ∃ v, (binOp op t (.float .f64 x) (.float .f64 y)).run Try.prog w = .ok (.float .f64 v) w.drew ∧ nan v = true ∧ v < 2 ^ 64 := by
  rcases hop with rfl | rfl
  all_goals
    unfold floatBits at h
    dsimp only at h
    simp only [binOp, Op.floatArith, h]
    simp
    refine ⟨_, rfl, ?_, ?_⟩
  all_goals
    first
      | rw [Fl.nan_iff]
      | skip
    simp only [Question.cut]
    first
      | exact (cut_nan _ _ (Nat.mod_lt _ (by decide)) (Nat.mod_lt _ (by decide))).1
      | exact (cut_nan _ _ (Nat.mod_lt _ (by decide)) (Nat.mod_lt _ (by decide))).2
theorem add_nan {b : Nat} (h : nan b = true) : floatBits .add .f64 b b = none := by
  obtain ⟨s, t, hd⟩ := Fl.read_nan h
  show ((Ieee.double.read b).sum (Ieee.double.read b)).map Ieee.double.write = none
  rw [hd]; rfl
theorem eql_self (t : TypeId) {b : Nat} (hb : b < 2 ^ 64) : binOp .eql t (.float .f64 b) (.float .f64 b) = pure (.bool (!nan b)) := by
  rw [binOp_float_cmp_eql]; show pure (Value.bool (Ieee.double.order b b == some .eq)) = _; rw [Fl.eq_self hb]
theorem neq_zero_nan (t : TypeId) {b : Nat} (hn : nan b = true) : binOp .neq t (.float .f64 b) (.float .f64 0) = pure (.bool true) := by
  rw [binOp_float_cmp_neq]; show pure (Value.bool (Ieee.double.order b 0 != some .eq)) = _; rw [Fl.order_nan_left hn]; rfl
theorem neq_zero (t : TypeId) {b : Nat} (hb : b < 2 ^ 64) (hn : nan b = false) : binOp .neq t (.float .f64 b) (.float .f64 0) = pure (.bool (!decide (ab b = 0))) := by
  have h := eql_zero t hb hn
  rw [binOp_float_cmp_eql] at h
  rw [binOp_float_cmp_neq]
  have h2 : (Ieee.double.order b 0 == some .eq) = decide (ab b = 0) := by
    rw [Fl.eq_key hb (by decide) hn (by decide)]
    refine decide_eq_decide.2 ?_
    unfold Fl.key ab
    split <;> simp <;> omega
  show pure (Value.bool (!(Ieee.double.order b 0 == some .eq))) = _
  rw [h2]
theorem scl_of_zero {b : Nat} (hn : nan b = false) (h : ab b = 0) (k : Int) : Fl.scl b k = b := by
  unfold Fl.scl
  rw [if_pos (.inl (by rw [← ab_rung]; exact h)), Fl.canon_num hn]
theorem scl_nan_QN {b : Nat} (hn : nan b = true) (k : Int) : Fl.scl b k = Fl.QN := by
  have h : 2047 * 2 ^ 52 ≤ Fl.rung b := by rw [Fl.nan_iff] at hn; unfold Fl.rung; omega
  unfold Fl.scl
  rw [if_pos (.inr h)]
  unfold Fl.canon
  rw [hn]; rfl
set_option maxRecDepth 100000 in
set_option maxHeartbeats 8000000 in
theorem powers_any (b : Nat) (k : Int) (w : World) (hb : b < 2 ^ 64) (k1 : -32768 ≤ k) (k2 : k ≤ 32767) :
    Calls Try.prog 9 #[.float .f64 b, .int .i16 k] w fun e w' => e = .returned (.bool true) ∧ Below w.heap.size w w' := by
  have C1 := Lib.hid awake_any
  have CS : Hid (∀ a w, Calls Try.prog 14 #[.float .f64 a, .float .f64 a] w fun e w' => e = .returned (.bool true) ∧ w = w') := Lib.hid (fun a w => by have c := same_any a a w; rw [decide_eq_true rfl] at c; exact c)
  have s0 := fun w => fscale_any b 0 w hb
  rw [Fl.scl_zero hb] at s0
  have S0 := Lib.hid s0
  have S1 := Lib.hid (fun w => fscale_any b 1 w hb)
  have SK := Lib.hid (fun w => fscale_any b k w hb)
  have SF := Lib.hid (fun w => fscale_any (Fl.flip b) k w (Fl.flip_lt hb))
  have hy := Fl.scl_lt hb k
  have SM := Lib.hid (fun w => fscale_any (Fl.scl b k) (-1) w hy)
  have SB := Lib.hid (fun w => fscale_any (Fl.scl b k) (-k) w hy)
  have CC := Lib.hid (fun w => canon_any b w hb)
  have K1 := Lib.hid (fun w => fclass_any b w hb)
  have K2 := Lib.hid (fun w => fclass_any (Fl.scl b k) w hy)
  have K3 := Lib.hid (fun w => fclass_any (Fl.scl (Fl.scl b k) (-1)) w (Fl.scl_lt hy _))
  have q1 := eql_self 24 hb
  have q2 := eql_self 24 hy
  rw [Fl.scl_nan] at q2
  have f1 := unary_neg hb
  have f2 := unary_neg hy
  have hback := fun h1 h2 h3 => Fl.scl_back hb k h1 h2 h3
  have p : Below w.heap.size w w := Below.refl _ _
  cases hn : nan b with
  | true =>
    rw [hn] at q1 q2
    have z := neq_zero_nan 24 hn
    have HV := Lib.hid (run_arith_nan .add 24 (.inl rfl) (add_nan hn))
    have hq := scl_nan_QN hn 1
    have n3 : (Fl.cls b == 3) = false := by have := Fl.cls_nan b; rw [hn] at this; rw [beq_iff_eq.1 this]; rfl
    rw [hq] at S1
    clear hback hn hq hb
    generalize Fl.cls b = c1 at *
    generalize Fl.scl (Fl.flip b) k = z' at *
    generalize Fl.scl (Fl.scl b k) (-1) = y1 at *
    generalize Fl.scl (Fl.scl b k) (-k) = y2 at *
    generalize Fl.scl b k = y at *
    obtain ⟨nv, hv⟩ : ∃ nv : World → Nat, ∀ w, (binOp .add 24 (.float .f64 b) (.float .f64 b)).run Try.prog w = .ok (.float .f64 (nv w)) w.drew ∧ nan (nv w) = true ∧ nv w < 2 ^ 64 := ⟨fun w => (HV.out w).choose, fun w => (HV.out w).choose_spec⟩
    have hv1 := fun w => (hv w).1
    have CV : Hid (∀ w w', Calls Try.prog 15 #[.float .f64 (nv w)] w' fun e w'' => e = .returned (.float .f64 Fl.QN) ∧ w' = w'') := Lib.hid (fun w w' => by
      have c := canon_any (nv w) w' (hv w).2.2
      unfold Fl.canon at c
      rw [(hv w).2.1] at c
      exact c)
    clear hv HV
    go_enter Try.func9, Try.ntmps9
    go_wp2_with fail
    refine (C1.out _).mono ?_
    rintro e v ⟨rfl, hb⟩
    replace p := bel_call p hb
    clear hb
    go_wp2_with fail
    refine (S0.out _).mono ?_
    rintro e v ⟨rfl, rfl⟩
    go_wp2_with fail
    refine (CC.out _).mono ?_
    rintro e v ⟨rfl, rfl⟩
    go_wp2_with fail
    refine (CS.out _ _).mono ?_
    rintro e v ⟨rfl, rfl⟩
    go_wp2_with fail
    refine (S1.out _).mono ?_
    rintro e v ⟨rfl, rfl⟩
    go_wp2_with fail
    refine (CV.out _ _).mono ?_
    rintro e v ⟨rfl, rfl⟩
    go_wp2_with fail
    refine (CS.out _ _).mono ?_
    rintro e v ⟨rfl, rfl⟩
    go_wp2_with fail
    refine (SK.out _).mono ?_
    rintro e v ⟨rfl, rfl⟩
    go_wp2_with fail
    refine (SF.out _).mono ?_
    rintro e v ⟨rfl, rfl⟩
    go_wp2_with fail
    refine (K1.out _).mono ?_
    rintro e v ⟨rfl, rfl⟩
    go_wp2_with fail
    go_ret
    exact ⟨rfl, (by repeat' (first | with_reducible exact Below.refl _ _ | with_reducible assumption | with_reducible refine bel_drew ?_ | with_reducible refine bel_alloc ?_ _ | with_reducible refine bel_set ?_ ?_ _ | with_reducible refine bel_call ?_ (by assumption) | (dsimp only; omega) | (simp; done) | (simp; omega)))⟩
  | false =>
    rw [hn] at q1 q2
    have z := neq_zero 24 hb hn
    obtain ⟨r, hr, hr2, hr3⟩ := Fl.add_self hb hn
    have hadd := fun w => run_float_arith (P := Try.prog) w .add 24 .f64 b b r hr
    have cv := fun w => canon_any r w hr3
    rw [hr2] at cv
    have CV := Lib.hid cv
    have hfl := Fl.scl_flip hb hn k
    rw [hfl] at SF
    have hz := fun h => scl_of_zero hn h k
    clear cv hr hr2 hr3 hfl hn hb hy
    generalize Fl.cls b = c1 at *
    generalize Fl.cls (Fl.scl b k) = c2 at *
    generalize Fl.cls (Fl.scl (Fl.scl b k) (-1)) = c3 at *
    generalize Fl.scl (Fl.scl b k) (-1) = y1 at *
    generalize Fl.scl (Fl.scl b k) (-k) = y2 at *
    generalize Fl.scl b 1 = d at *
    generalize Fl.scl b k = y at *
    generalize Fl.flip b = fb at *
    generalize Fl.flip y = fy at *
    by_cases h1 : c1 = 3 ∧ c2 = 3 ∧ c3 = 3
    · obtain ⟨rfl, rfl, rfl⟩ := h1
      obtain rfl := hback rfl rfl rfl
      clear hback hz
      go_enter Try.func9, Try.ntmps9
      go_wp2_with fail
      refine (C1.out _).mono ?_
      rintro e v ⟨rfl, hb⟩
      replace p := bel_call p hb
      clear hb
      go_wp2_with fail
      refine (S0.out _).mono ?_
      rintro e v ⟨rfl, rfl⟩
      go_wp2_with fail
      refine (CC.out _).mono ?_
      rintro e v ⟨rfl, rfl⟩
      go_wp2_with fail
      refine (CS.out _ _).mono ?_
      rintro e v ⟨rfl, rfl⟩
      go_wp2_with fail
      refine (S1.out _).mono ?_
      rintro e v ⟨rfl, rfl⟩
      go_wp2_with fail
      refine (CV.out _).mono ?_
      rintro e v ⟨rfl, rfl⟩
      go_wp2_with fail
      refine (CS.out _ _).mono ?_
      rintro e v ⟨rfl, rfl⟩
      go_wp2_with fail
      refine (SK.out _).mono ?_
      rintro e v ⟨rfl, rfl⟩
      go_wp2_with fail
      refine (SF.out _).mono ?_
      rintro e v ⟨rfl, rfl⟩
      go_wp2_with fail
      refine (CS.out _ _).mono ?_
      rintro e v ⟨rfl, rfl⟩
      go_wp2_with fail
      refine (K1.out _).mono ?_
      rintro e v ⟨rfl, rfl⟩
      go_wp2_with fail
      refine (K2.out _).mono ?_
      rintro e v ⟨rfl, rfl⟩
      go_wp2_with fail
      refine (SM.out _).mono ?_
      rintro e v ⟨rfl, rfl⟩
      go_wp2_with fail
      refine (K3.out _).mono ?_
      rintro e v ⟨rfl, rfl⟩
      go_wp2_with fail
      refine (SB.out _).mono ?_
      rintro e v ⟨rfl, rfl⟩
      go_wp2_with fail
      refine (CS.out _ _).mono ?_
      rintro e v ⟨rfl, rfl⟩
      go_wp2_with fail
      go_ret
      exact ⟨rfl, (by repeat' (first | with_reducible exact Below.refl _ _ | with_reducible assumption | with_reducible refine bel_drew ?_ | with_reducible refine bel_alloc ?_ _ | with_reducible refine bel_set ?_ ?_ _ | with_reducible refine bel_call ?_ (by assumption) | (dsimp only; omega) | (simp; done) | (simp; omega)))⟩
    · have h2 : ((c1 == 3) = false) ∨ ((c1 == 3) = true ∧ (c2 == 3) = false) ∨ ((c1 == 3) = true ∧ (c2 == 3) = true ∧ (c3 == 3) = false) := by
        by_cases i1 : c1 = 3
        · by_cases i2 : c2 = 3
          · by_cases i3 : c3 = 3
            · exact absurd ⟨i1, i2, i3⟩ h1
            · exact .inr (.inr ⟨beq_iff_eq.2 i1, beq_iff_eq.2 i2, beq_eq_false_iff_ne.2 i3⟩)
          · exact .inr (.inl ⟨beq_iff_eq.2 i1, beq_eq_false_iff_ne.2 i2⟩)
        · exact .inl (beq_eq_false_iff_ne.2 i1)
      clear h1 hback
      by_cases z0 : ab b = 0
      · rw [decide_eq_true z0] at z
        have HZ := Lib.hid (hz z0)
        clear hz z0
        rcases h2 with m1 | ⟨m1, m2⟩ | ⟨m1, m2, m3⟩
        · go_enter Try.func9, Try.ntmps9
          go_wp2_with fail
          refine (C1.out _).mono ?_
          rintro e v ⟨rfl, hb⟩
          replace p := bel_call p hb
          clear hb
          go_wp2_with fail
          refine (S0.out _).mono ?_
          rintro e v ⟨rfl, rfl⟩
          go_wp2_with fail
          refine (CC.out _).mono ?_
          rintro e v ⟨rfl, rfl⟩
          go_wp2_with fail
          refine (CS.out _ _).mono ?_
          rintro e v ⟨rfl, rfl⟩
          go_wp2_with fail
          refine (S1.out _).mono ?_
          rintro e v ⟨rfl, rfl⟩
          go_wp2_with fail
          refine (CV.out _).mono ?_
          rintro e v ⟨rfl, rfl⟩
          go_wp2_with fail
          refine (CS.out _ _).mono ?_
          rintro e v ⟨rfl, rfl⟩
          go_wp2_with fail
          refine (SK.out _).mono ?_
          rintro e v ⟨rfl, rfl⟩
          go_wp2_with fail
          refine (SF.out _).mono ?_
          rintro e v ⟨rfl, rfl⟩
          go_wp2_with fail
          refine (CS.out _ _).mono ?_
          rintro e v ⟨rfl, rfl⟩
          go_wp2_with fail
          refine (K1.out _).mono ?_
          rintro e v ⟨rfl, rfl⟩
          go_wp2_with fail
          obtain rfl := HZ.out
          refine (CS.out _ _).mono ?_
          rintro e v ⟨rfl, rfl⟩
          go_wp2_with fail
          go_ret
          exact ⟨rfl, (by repeat' (first | with_reducible exact Below.refl _ _ | with_reducible assumption | with_reducible refine bel_drew ?_ | with_reducible refine bel_alloc ?_ _ | with_reducible refine bel_set ?_ ?_ _ | with_reducible refine bel_call ?_ (by assumption) | (dsimp only; omega) | (simp; done) | (simp; omega)))⟩
        · go_enter Try.func9, Try.ntmps9
          go_wp2_with fail
          refine (C1.out _).mono ?_
          rintro e v ⟨rfl, hb⟩
          replace p := bel_call p hb
          clear hb
          go_wp2_with fail
          refine (S0.out _).mono ?_
          rintro e v ⟨rfl, rfl⟩
          go_wp2_with fail
          refine (CC.out _).mono ?_
          rintro e v ⟨rfl, rfl⟩
          go_wp2_with fail
          refine (CS.out _ _).mono ?_
          rintro e v ⟨rfl, rfl⟩
          go_wp2_with fail
          refine (S1.out _).mono ?_
          rintro e v ⟨rfl, rfl⟩
          go_wp2_with fail
          refine (CV.out _).mono ?_
          rintro e v ⟨rfl, rfl⟩
          go_wp2_with fail
          refine (CS.out _ _).mono ?_
          rintro e v ⟨rfl, rfl⟩
          go_wp2_with fail
          refine (SK.out _).mono ?_
          rintro e v ⟨rfl, rfl⟩
          go_wp2_with fail
          refine (SF.out _).mono ?_
          rintro e v ⟨rfl, rfl⟩
          go_wp2_with fail
          refine (CS.out _ _).mono ?_
          rintro e v ⟨rfl, rfl⟩
          go_wp2_with fail
          refine (K1.out _).mono ?_
          rintro e v ⟨rfl, rfl⟩
          go_wp2_with fail
          refine (K2.out _).mono ?_
          rintro e v ⟨rfl, rfl⟩
          go_wp2_with fail
          obtain rfl := HZ.out
          refine (CS.out _ _).mono ?_
          rintro e v ⟨rfl, rfl⟩
          go_wp2_with fail
          go_ret
          exact ⟨rfl, (by repeat' (first | with_reducible exact Below.refl _ _ | with_reducible assumption | with_reducible refine bel_drew ?_ | with_reducible refine bel_alloc ?_ _ | with_reducible refine bel_set ?_ ?_ _ | with_reducible refine bel_call ?_ (by assumption) | (dsimp only; omega) | (simp; done) | (simp; omega)))⟩
        · go_enter Try.func9, Try.ntmps9
          go_wp2_with fail
          refine (C1.out _).mono ?_
          rintro e v ⟨rfl, hb⟩
          replace p := bel_call p hb
          clear hb
          go_wp2_with fail
          refine (S0.out _).mono ?_
          rintro e v ⟨rfl, rfl⟩
          go_wp2_with fail
          refine (CC.out _).mono ?_
          rintro e v ⟨rfl, rfl⟩
          go_wp2_with fail
          refine (CS.out _ _).mono ?_
          rintro e v ⟨rfl, rfl⟩
          go_wp2_with fail
          refine (S1.out _).mono ?_
          rintro e v ⟨rfl, rfl⟩
          go_wp2_with fail
          refine (CV.out _).mono ?_
          rintro e v ⟨rfl, rfl⟩
          go_wp2_with fail
          refine (CS.out _ _).mono ?_
          rintro e v ⟨rfl, rfl⟩
          go_wp2_with fail
          refine (SK.out _).mono ?_
          rintro e v ⟨rfl, rfl⟩
          go_wp2_with fail
          refine (SF.out _).mono ?_
          rintro e v ⟨rfl, rfl⟩
          go_wp2_with fail
          refine (CS.out _ _).mono ?_
          rintro e v ⟨rfl, rfl⟩
          go_wp2_with fail
          refine (K1.out _).mono ?_
          rintro e v ⟨rfl, rfl⟩
          go_wp2_with fail
          refine (K2.out _).mono ?_
          rintro e v ⟨rfl, rfl⟩
          go_wp2_with fail
          refine (SM.out _).mono ?_
          rintro e v ⟨rfl, rfl⟩
          go_wp2_with fail
          refine (K3.out _).mono ?_
          rintro e v ⟨rfl, rfl⟩
          go_wp2_with fail
          obtain rfl := HZ.out
          refine (CS.out _ _).mono ?_
          rintro e v ⟨rfl, rfl⟩
          go_wp2_with fail
          go_ret
          exact ⟨rfl, (by repeat' (first | with_reducible exact Below.refl _ _ | with_reducible assumption | with_reducible refine bel_drew ?_ | with_reducible refine bel_alloc ?_ _ | with_reducible refine bel_set ?_ ?_ _ | with_reducible refine bel_call ?_ (by assumption) | (dsimp only; omega) | (simp; done) | (simp; omega)))⟩
      · rw [decide_eq_false z0] at z
        clear hz z0
        rcases h2 with m1 | ⟨m1, m2⟩ | ⟨m1, m2, m3⟩
        · go_enter Try.func9, Try.ntmps9
          go_wp2_with fail
          refine (C1.out _).mono ?_
          rintro e v ⟨rfl, hb⟩
          replace p := bel_call p hb
          clear hb
          go_wp2_with fail
          refine (S0.out _).mono ?_
          rintro e v ⟨rfl, rfl⟩
          go_wp2_with fail
          refine (CC.out _).mono ?_
          rintro e v ⟨rfl, rfl⟩
          go_wp2_with fail
          refine (CS.out _ _).mono ?_
          rintro e v ⟨rfl, rfl⟩
          go_wp2_with fail
          refine (S1.out _).mono ?_
          rintro e v ⟨rfl, rfl⟩
          go_wp2_with fail
          refine (CV.out _).mono ?_
          rintro e v ⟨rfl, rfl⟩
          go_wp2_with fail
          refine (CS.out _ _).mono ?_
          rintro e v ⟨rfl, rfl⟩
          go_wp2_with fail
          refine (SK.out _).mono ?_
          rintro e v ⟨rfl, rfl⟩
          go_wp2_with fail
          refine (SF.out _).mono ?_
          rintro e v ⟨rfl, rfl⟩
          go_wp2_with fail
          refine (CS.out _ _).mono ?_
          rintro e v ⟨rfl, rfl⟩
          go_wp2_with fail
          refine (K1.out _).mono ?_
          rintro e v ⟨rfl, rfl⟩
          go_wp2_with fail
          go_ret
          exact ⟨rfl, (by repeat' (first | with_reducible exact Below.refl _ _ | with_reducible assumption | with_reducible refine bel_drew ?_ | with_reducible refine bel_alloc ?_ _ | with_reducible refine bel_set ?_ ?_ _ | with_reducible refine bel_call ?_ (by assumption) | (dsimp only; omega) | (simp; done) | (simp; omega)))⟩
        · go_enter Try.func9, Try.ntmps9
          go_wp2_with fail
          refine (C1.out _).mono ?_
          rintro e v ⟨rfl, hb⟩
          replace p := bel_call p hb
          clear hb
          go_wp2_with fail
          refine (S0.out _).mono ?_
          rintro e v ⟨rfl, rfl⟩
          go_wp2_with fail
          refine (CC.out _).mono ?_
          rintro e v ⟨rfl, rfl⟩
          go_wp2_with fail
          refine (CS.out _ _).mono ?_
          rintro e v ⟨rfl, rfl⟩
          go_wp2_with fail
          refine (S1.out _).mono ?_
          rintro e v ⟨rfl, rfl⟩
          go_wp2_with fail
          refine (CV.out _).mono ?_
          rintro e v ⟨rfl, rfl⟩
          go_wp2_with fail
          refine (CS.out _ _).mono ?_
          rintro e v ⟨rfl, rfl⟩
          go_wp2_with fail
          refine (SK.out _).mono ?_
          rintro e v ⟨rfl, rfl⟩
          go_wp2_with fail
          refine (SF.out _).mono ?_
          rintro e v ⟨rfl, rfl⟩
          go_wp2_with fail
          refine (CS.out _ _).mono ?_
          rintro e v ⟨rfl, rfl⟩
          go_wp2_with fail
          refine (K1.out _).mono ?_
          rintro e v ⟨rfl, rfl⟩
          go_wp2_with fail
          refine (K2.out _).mono ?_
          rintro e v ⟨rfl, rfl⟩
          go_wp2_with fail
          go_ret
          exact ⟨rfl, (by repeat' (first | with_reducible exact Below.refl _ _ | with_reducible assumption | with_reducible refine bel_drew ?_ | with_reducible refine bel_alloc ?_ _ | with_reducible refine bel_set ?_ ?_ _ | with_reducible refine bel_call ?_ (by assumption) | (dsimp only; omega) | (simp; done) | (simp; omega)))⟩
        · go_enter Try.func9, Try.ntmps9
          go_wp2_with fail
          refine (C1.out _).mono ?_
          rintro e v ⟨rfl, hb⟩
          replace p := bel_call p hb
          clear hb
          go_wp2_with fail
          refine (S0.out _).mono ?_
          rintro e v ⟨rfl, rfl⟩
          go_wp2_with fail
          refine (CC.out _).mono ?_
          rintro e v ⟨rfl, rfl⟩
          go_wp2_with fail
          refine (CS.out _ _).mono ?_
          rintro e v ⟨rfl, rfl⟩
          go_wp2_with fail
          refine (S1.out _).mono ?_
          rintro e v ⟨rfl, rfl⟩
          go_wp2_with fail
          refine (CV.out _).mono ?_
          rintro e v ⟨rfl, rfl⟩
          go_wp2_with fail
          refine (CS.out _ _).mono ?_
          rintro e v ⟨rfl, rfl⟩
          go_wp2_with fail
          refine (SK.out _).mono ?_
          rintro e v ⟨rfl, rfl⟩
          go_wp2_with fail
          refine (SF.out _).mono ?_
          rintro e v ⟨rfl, rfl⟩
          go_wp2_with fail
          refine (CS.out _ _).mono ?_
          rintro e v ⟨rfl, rfl⟩
          go_wp2_with fail
          refine (K1.out _).mono ?_
          rintro e v ⟨rfl, rfl⟩
          go_wp2_with fail
          refine (K2.out _).mono ?_
          rintro e v ⟨rfl, rfl⟩
          go_wp2_with fail
          refine (SM.out _).mono ?_
          rintro e v ⟨rfl, rfl⟩
          go_wp2_with fail
          refine (K3.out _).mono ?_
          rintro e v ⟨rfl, rfl⟩
          go_wp2_with fail
          go_ret
          exact ⟨rfl, (by repeat' (first | with_reducible exact Below.refl _ _ | with_reducible assumption | with_reducible refine bel_drew ?_ | with_reducible refine bel_alloc ?_ _ | with_reducible refine bel_set ?_ ?_ _ | with_reducible refine bel_call ?_ (by assumption) | (dsimp only; omega) | (simp; done) | (simp; omega)))⟩
end Go.Proofs.Yticlnanekjfdoaa
