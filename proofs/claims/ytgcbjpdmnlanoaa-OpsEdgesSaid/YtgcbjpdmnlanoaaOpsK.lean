/- WALK of OpsKeys. -/
import Derived.Test.YtgcbjpdmnlanoaaOpsL
import Derived.Test.YtgcbjpdmnlanoaaOpenOp
namespace Go.Proofs.Ytgcbjpdmnlanoaa
open Go.RowKit
open Fl (nan key canon)
theorem runOps_one (o : Stp) (r : Rc) : runOps (fun _ => o) 1 r = one o r := by
  unfold runOps chk one
  rw [if_neg (show ¬ 8 < 1 by decide)]
  have e : allStp (fun _ => o) 1 0 = isStp o := by
    show (isStp o && true) = isStp o
    rw [Bool.and_true]
  rw [e]
  cases isStp o <;> rfl
theorem key_lit (o : Stp) (r : Rc) (ho : o.ok) (hr : r.ok) (w : World) (b : Nat) (hb : Blk w b [.int .i64 o.kind, .int .i64 o.n, .float .f64 o.x] 40) :
    Calls Try.prog 16 #[.slice (some ⟨b, 0, none⟩) 1 1, .agg #[.int .u64 r.key, .float .f64 r.val]] w fun e w' => e = .returned (.tuple #[.int .u64 (one o r).1.key, .bool ((one o r).2 == 1)]) ∧ Below w.heap.size w w' := by
  have c := key_any (some ⟨b, 0, none⟩) 1 1 b 0 (fun _ => o) r w (by decide) (fun _ => rfl) (fun _ => stps_one ho hb) hr
  rw [runOps_one] at c
  exact c
theorem one_regroup {n k : Int} {v : Nat} (hn : 1 ≤ n) : one ⟨11, n, 0⟩ ⟨k, v⟩ = (⟨k % n, canon v⟩, 1) := by
  have hs : isStp ⟨11, n, 0⟩ = true := by unfold isStp; dsimp only; rw [if_neg (show ¬ (11 : Int) = 7 by decide), if_pos rfl]; exact decide_eq_true hn
  rw [one_yes (r := ⟨k, v⟩) hs rfl]
  rfl
theorem one_side (k : Int) (v : Nat) : one ⟨12, 0, 0⟩ ⟨k, v⟩ = (⟨k % 4611686018427387904 * 4 + sde (canon v), canon v⟩, 1) := by
  rw [one_yes (o := ⟨12, 0, 0⟩) (r := ⟨k, v⟩) rfl rfl]
  rfl
theorem canon_of_nan {v : Nat} (h : nan v = true) : canon v = Fl.QN := by unfold Fl.canon; rw [h]; rfl
theorem flt_canon_left (v y : Nat) : flt (canon v) y = flt v y := by
  cases h : nan v
  · rw [Fl.canon_num h]
  · rw [canon_of_nan h]; unfold flt; rw [h]; rfl
theorem flt_canon_right (v y : Nat) : flt y (canon v) = flt y v := by
  cases h : nan v
  · rw [Fl.canon_num h]
  · rw [canon_of_nan h]; unfold flt; rw [h, show nan Fl.QN = true by decide]; cases nan y <;> rfl
theorem zer_canon (v : Nat) : zer (canon v) = zer v := by
  cases h : nan v
  · rw [Fl.canon_num h]
  · rw [canon_of_nan h]; unfold zer; rw [h]; rfl
theorem sde_tells {v : Nat} (hv : v < 2 ^ 64) : (sde (canon v) == 0) = flt v 0 ∧ (sde (canon v) == 1) = zer v ∧ (sde (canon v) == 2) = flt 0 v := by
  unfold sde
  rw [flt_canon_left, flt_canon_right, zer_canon]
  have h1 : ¬ (flt v 0 = true ∧ zer v = true) := by
    unfold flt zer
    rintro ⟨a, b⟩
    simp only [Bool.and_eq_true, decide_eq_true_eq] at a b
    have e : ab v = 0 := b.2
    have := a.2
    unfold ab at e
    unfold Fl.key at this
    split at this <;> simp at this <;> omega
  have h2 : ¬ (flt 0 v = true ∧ zer v = true) := by
    unfold flt zer
    rintro ⟨a, b⟩
    simp only [Bool.and_eq_true, decide_eq_true_eq] at a b
    have e : ab v = 0 := b.2
    have := a.2
    unfold ab at e
    unfold Fl.key at this
    split at this <;> simp at this <;> omega
  have h3 : ¬ (flt v 0 = true ∧ flt 0 v = true) := by
    unfold flt
    rintro ⟨a, b⟩
    simp only [Bool.and_eq_true, decide_eq_true_eq] at a b
    omega
  revert h1 h2 h3
  generalize flt v 0 = p
  generalize zer v = q
  generalize flt 0 v = g
  revert p q g
  decide
theorem stp_ok {k n : Int} (h1 : -9223372036854775808 ≤ k) (h2 : k ≤ 9223372036854775807) (h3 : -9223372036854775808 ≤ n) (h4 : n ≤ 9223372036854775807) : Stp.ok ⟨k, n, 0⟩ := ⟨h1, h2, h3, h4, Nat.two_pow_pos 64⟩
theorem one_key {kd n : Int} {k : Int} {v : Nat} : (one ⟨kd, n, 0⟩ ⟨k, v⟩).2 ≠ 1 ∨ kd = 11 ∨ kd = 12 ∨ (one ⟨kd, n, 0⟩ ⟨k, v⟩).1.key = k := by
  cases hs : isStp ⟨kd, n, 0⟩ with
  | false => rw [one_no hs]; exact .inl (by decide)
  | true =>
    rcases fate_cases ⟨kd, n, 0⟩ (canon v) with hf | hf | hf
    · rw [one_yes (r := ⟨k, v⟩) hs hf]
      by_cases h1 : kd = 11
      · exact .inr (.inl h1)
      by_cases h2 : kd = 12
      · exact .inr (.inr (.inl h2))
      refine .inr (.inr (.inr ?_))
      unfold nkey
      dsimp only
      rw [if_neg h1, if_neg h2]
    · rw [one_else (r := ⟨k, v⟩) hs hf (by decide)]; exact .inl (by show (2 : Int) ≠ 1; decide)
    · rw [one_else (r := ⟨k, v⟩) hs hf (by decide)]; exact .inl (by show (3 : Int) ≠ 1; decide)
set_option maxRecDepth 100000 in
set_option maxHeartbeats 16000000 in
theorem keys_any (r : Rc) (n kd : Int) (w : World) (hok : r.ok) (hn1 : -9223372036854775808 ≤ n) (hn2 : n ≤ 9223372036854775807) (hk1 : -9223372036854775808 ≤ kd) (hk2 : kd ≤ 9223372036854775807) :
    Calls Try.prog 9 #[.agg #[.int .u64 r.key, .float .f64 r.val], .int .i64 n, .int .i64 kd] w fun e w' => e = .returned (.bool true) ∧ Below w.heap.size w w' := by
  obtain ⟨k, v⟩ := r
  obtain ⟨h0, h1, hv⟩ := hok
  dsimp only at *
  have C0 := Lib.hid oawake_any
  have okN : Stp.ok ⟨11, n, 0⟩ := stp_ok (by decide) (by decide) hn1 hn2
  have okS : Stp.ok ⟨12, 0, 0⟩ := stp_ok (by decide) (by decide) (by decide) (by decide)
  have okK : Stp.ok ⟨kd, n, 0⟩ := stp_ok hk1 hk2 hn1 hn2
  have hkey := one_key (kd := kd) (n := n) (k := k) (v := v)
  have C3 := Lib.hid (fun w b hb => key_lit ⟨12, 0, 0⟩ ⟨k, v⟩ okS ⟨h0, h1, hv⟩ w b hb)
  rw [one_side] at C3
  have C4 := Lib.hid (fun w => one_any' ⟨kd, n, 0⟩ ⟨k, v⟩ w okK ⟨h0, h1, hv⟩ _ rfl)
  obtain ⟨t0, t1, t2⟩ := sde_tells hv
  have hsd := sde_bounds (canon v)
  have l0 := lss_flt 29 (b := 0) hv (by decide)
  have l1 := eql_zer 29 hv
  have l2 := gtr_flt 29 (b := 0) hv (by decide)
  have hone := fun h => one_regroup (n := n) (k := k) (v := v) h
  have hone2 := fun h => one_regroup (n := n) (k := k % n) (v := v) h
  have hkn : 1 ≤ n → 0 ≤ k % n ∧ k % n < n ∧ k % n ≤ k := fun h => ⟨Int.emod_nonneg _ (by omega), Int.emod_lt_of_pos _ (by omega), by have h2 := Int.emod_nonneg k (show n ≠ 0 by omega); have h3 := Int.mul_ediv_add_emod k n; have h4 := Int.ediv_nonneg h0 (show 0 ≤ n by omega); have h5 := Int.mul_nonneg (show 0 ≤ n by omega) h4; omega⟩
  have C1 : 1 ≤ n → Hid (∀ w b, Blk w b [.int .i64 11, .int .i64 n, .float .f64 0] 40 → Calls Try.prog 16 #[.slice (some ⟨b, 0, none⟩) 1 1, .agg #[.int .u64 k, .float .f64 v]] w fun e w' => e = .returned (.tuple #[.int .u64 (k % n), .bool true]) ∧ Below w.heap.size w w') := fun h => Lib.hid (fun w b hb => by
    have c := key_lit ⟨11, n, 0⟩ ⟨k, v⟩ okN ⟨h0, h1, hv⟩ w b hb
    rw [hone h] at c
    exact c)
  have C2 : 1 ≤ n → Hid (∀ w b, Blk w b [.int .i64 11, .int .i64 n, .float .f64 0] 40 → Calls Try.prog 16 #[.slice (some ⟨b, 0, none⟩) 1 1, .agg #[.int .u64 (k % n), .float .f64 v]] w fun e w' => e = .returned (.tuple #[.int .u64 (k % n), .bool true]) ∧ Below w.heap.size w w') := fun h => Lib.hid (fun w b hb => by
    have c := key_lit ⟨11, n, 0⟩ ⟨k % n, v⟩ okN ⟨(hkn h).1, by have := (hkn h).2.2; show k % n ≤ _; omega, hv⟩ w b hb
    rw [hone2 h, Int.emod_emod_of_dvd _ (Int.dvd_refl n)] at c
    exact c)
  have hdv : 1 ≤ n → (k - k % n) % n = 0 ∧ Int.tmod (k - k % n) n = 0 := fun h => by
    have e : (k - k % n) % n = 0 := Int.emod_eq_zero_of_dvd (Int.dvd_self_sub_emod)
    exact ⟨e, by rw [Int.tmod_eq_emod_of_nonneg (by have := (hkn h).2.2; omega)]; exact e⟩
  generalize one ⟨kd, n, 0⟩ ⟨k, v⟩ = T at *
  obtain ⟨⟨tk, tv⟩, tf⟩ := T
  dsimp only at *
  have HD := Lib.hid hdv
  have HKN := Lib.hid hkn
  clear okN okS okK hone hone2 hdv hkn hn1 hk1 hk2
  have hm0 := Int.emod_nonneg k (show (4611686018427387904 : Int) ≠ 0 by decide)
  have hm1 := Int.emod_lt_of_pos k (show (0 : Int) < 4611686018427387904 by decide)
  have hmt := tmod_pos (b := 4611686018427387904) h0
  generalize k % 4611686018427387904 = m at *
  obtain ⟨K, hK⟩ : ∃ K, K = m * 4 + sde (canon v) := ⟨_, rfl⟩
  rw [← hK] at C3
  have e1 : K % 4 = sde (canon v) := by omega
  have e2 : Int.tmod K 4 = sde (canon v) := by rw [Int.tmod_eq_emod_of_nonneg (by omega)]; exact e1
  have e3 : K / 4 = m := by omega
  have e4 : Int.tdiv K 4 = m := by rw [Int.tdiv_eq_ediv_of_nonneg (by omega)]; exact e3
  have hm2 : m ≤ 4611686018427387903 := by omega
  clear hK hm1 hsd
  generalize sde (canon v) = sd at *
  generalize flt v 0 = b0 at *
  generalize zer v = b1 at *
  generalize flt 0 v = b2 at *
  have hT : ((tf != 1) = true) ∨ ((tf != 1) = false ∧ (kd == 11) = true) ∨ ((tf != 1) = false ∧ (kd == 11) = false ∧ (kd == 12) = true) ∨ ((tf != 1) = false ∧ (kd == 11) = false ∧ (kd == 12) = false ∧ tk = k) := by
    by_cases g1 : tf = 1
    · have g2 : (tf != 1) = false := by rw [g1]; rfl
      by_cases g3 : kd = 11
      · exact .inr (.inl ⟨g2, beq_iff_eq.2 g3⟩)
      · by_cases g4 : kd = 12
        · exact .inr (.inr (.inl ⟨g2, beq_eq_false_iff_ne.2 g3, beq_iff_eq.2 g4⟩))
        · refine .inr (.inr (.inr ⟨g2, beq_eq_false_iff_ne.2 g3, beq_eq_false_iff_ne.2 g4, ?_⟩))
          rcases hkey with h | h | h | h
          · exact absurd g1 h
          · exact absurd h g3
          · exact absurd h g4
          · exact h
    · exact .inl (by rw [bne_iff_ne]; exact g1)
  clear hkey
  have HT := Lib.hid hT
  clear hT
  have p : Below w.heap.size w w := Below.refl _ _
  by_cases hn : 1 ≤ n
  · have C1' := C1 hn
    have C2' := C2 hn
    obtain ⟨d1, d2⟩ := HD.out hn
    obtain ⟨k1, k2, k3⟩ := HKN.out hn
    have hn0 : ¬ n = 0 := by omega
    have ht := tmod_pos (b := n) h0
    clear C1 C2 HD HKN
    generalize k % n = q at *
    have hqn : ¬ n ≤ q := by omega
    go_enter Try.func9, Try.ntmps9
    go_wp2_with fail
    refine (C0.out _).mono ?_
    rintro e w1 ⟨rfl, hb⟩
    have s1 : Blk w1 w.heap.size [.int .u64 k, .float .f64 v] 31 := Blk.below (by repeat' (first | with_reducible assumption | (show (_ : List Value) = _; rfl) | with_reducible exact Blk.new _ _ rfl | (with_reducible refine Blk.new _ _ ?_; simp; done) | with_reducible apply Blk.set_eq | with_reducible apply Blk.other | with_reducible apply Blk.alloc | with_reducible apply Blk.drew | (simp; done) | (simp; omega))) hb
    have p1 : Below w.heap.size w w1 := (by repeat' (first | with_reducible exact Below.refl _ _ | with_reducible assumption | with_reducible refine bel_drew ?_ | with_reducible refine bel_alloc ?_ _ | with_reducible refine bel_set ?_ ?_ _ | with_reducible refine bel_call ?_ (by assumption) | (dsimp only; omega) | (simp; done) | (simp; omega)))
    clear hb p
    have s1c0 : w1.cell? ⟨w.heap.size, 0, none⟩ = some (.int .u64 k) := s1.cell 0; have s1c1 : w1.cell? ⟨w.heap.size, 1, none⟩ = some (.float .f64 v) := s1.cell 1; have s1z := s1.lt
    go_wp2_with fail
    refine (C1'.out _ _ ?_).mono ?_
    · exact (by repeat' (first | with_reducible assumption | (show (_ : List Value) = _; rfl) | with_reducible exact Blk.new _ _ rfl | (with_reducible refine Blk.new _ _ ?_; simp; done) | with_reducible apply Blk.set_eq | with_reducible apply Blk.other | with_reducible apply Blk.alloc | with_reducible apply Blk.drew | (simp; done) | (simp; omega)))
    rintro e w2 ⟨rfl, hb⟩
    have s2 : Blk w2 w.heap.size [.int .u64 k, .float .f64 v] 31 := Blk.below (by repeat' (first | with_reducible assumption | (show (_ : List Value) = _; rfl) | with_reducible exact Blk.new _ _ rfl | (with_reducible refine Blk.new _ _ ?_; simp; done) | with_reducible apply Blk.set_eq | with_reducible apply Blk.other | with_reducible apply Blk.alloc | with_reducible apply Blk.drew | (simp; done) | (simp; omega))) hb
    have p2 : Below w.heap.size w w2 := (by repeat' (first | with_reducible exact Below.refl _ _ | with_reducible assumption | with_reducible refine bel_drew ?_ | with_reducible refine bel_alloc ?_ _ | with_reducible refine bel_set ?_ ?_ _ | with_reducible refine bel_call ?_ (by assumption) | (dsimp only; omega) | (simp; done) | (simp; omega)))
    clear hb s1 s1c0 s1c1 s1z p1
    have s2c0 : w2.cell? ⟨w.heap.size, 0, none⟩ = some (.int .u64 k) := s2.cell 0; have s2c1 : w2.cell? ⟨w.heap.size, 1, none⟩ = some (.float .f64 v) := s2.cell 1; have s2z := s2.lt
    go_wp2_with fail
    refine (C2'.out _ _ ?_).mono ?_
    · exact (by repeat' (first | with_reducible assumption | (show (_ : List Value) = _; rfl) | with_reducible exact Blk.new _ _ rfl | (with_reducible refine Blk.new _ _ ?_; simp; done) | with_reducible apply Blk.set_eq | with_reducible apply Blk.other | with_reducible apply Blk.alloc | with_reducible apply Blk.drew | (simp; done) | (simp; omega)))
    rintro e w3 ⟨rfl, hb⟩
    have s3 : Blk w3 w.heap.size [.int .u64 k, .float .f64 v] 31 := Blk.below (by repeat' (first | with_reducible assumption | (show (_ : List Value) = _; rfl) | with_reducible exact Blk.new _ _ rfl | (with_reducible refine Blk.new _ _ ?_; simp; done) | with_reducible apply Blk.set_eq | with_reducible apply Blk.other | with_reducible apply Blk.alloc | with_reducible apply Blk.drew | (simp; done) | (simp; omega))) hb
    have p3 : Below w.heap.size w w3 := (by repeat' (first | with_reducible exact Below.refl _ _ | with_reducible assumption | with_reducible refine bel_drew ?_ | with_reducible refine bel_alloc ?_ _ | with_reducible refine bel_set ?_ ?_ _ | with_reducible refine bel_call ?_ (by assumption) | (dsimp only; omega) | (simp; done) | (simp; omega)))
    clear hb s2 s2c0 s2c1 s2z p2
    have s3c0 : w3.cell? ⟨w.heap.size, 0, none⟩ = some (.int .u64 k) := s3.cell 0; have s3c1 : w3.cell? ⟨w.heap.size, 1, none⟩ = some (.float .f64 v) := s3.cell 1; have s3z := s3.lt
    go_wp2_with fail
    refine (C3.out _ _ ?_).mono ?_
    · exact (by repeat' (first | with_reducible assumption | (show (_ : List Value) = _; rfl) | with_reducible exact Blk.new _ _ rfl | (with_reducible refine Blk.new _ _ ?_; simp; done) | with_reducible apply Blk.set_eq | with_reducible apply Blk.other | with_reducible apply Blk.alloc | with_reducible apply Blk.drew | (simp; done) | (simp; omega)))
    rintro e w4 ⟨rfl, hb⟩
    have s4 : Blk w4 w.heap.size [.int .u64 k, .float .f64 v] 31 := Blk.below (by repeat' (first | with_reducible assumption | (show (_ : List Value) = _; rfl) | with_reducible exact Blk.new _ _ rfl | (with_reducible refine Blk.new _ _ ?_; simp; done) | with_reducible apply Blk.set_eq | with_reducible apply Blk.other | with_reducible apply Blk.alloc | with_reducible apply Blk.drew | (simp; done) | (simp; omega))) hb
    have p4 : Below w.heap.size w w4 := (by repeat' (first | with_reducible exact Below.refl _ _ | with_reducible assumption | with_reducible refine bel_drew ?_ | with_reducible refine bel_alloc ?_ _ | with_reducible refine bel_set ?_ ?_ _ | with_reducible refine bel_call ?_ (by assumption) | (dsimp only; omega) | (simp; done) | (simp; omega)))
    clear hb s3 s3c0 s3c1 s3z p3
    have s4c0 : w4.cell? ⟨w.heap.size, 0, none⟩ = some (.int .u64 k) := s4.cell 0; have s4c1 : w4.cell? ⟨w.heap.size, 1, none⟩ = some (.float .f64 v) := s4.cell 1; have s4z := s4.lt
    go_wp2_with fail
    refine (C4.out _).mono ?_
    rintro e w5 ⟨rfl, hb⟩
    have s5 : Blk w5 w.heap.size [.int .u64 k, .float .f64 v] 31 := Blk.below (by repeat' (first | with_reducible assumption | (show (_ : List Value) = _; rfl) | with_reducible exact Blk.new _ _ rfl | (with_reducible refine Blk.new _ _ ?_; simp; done) | with_reducible apply Blk.set_eq | with_reducible apply Blk.other | with_reducible apply Blk.alloc | with_reducible apply Blk.drew | (simp; done) | (simp; omega))) hb
    have p5 : Below w.heap.size w w5 := (by repeat' (first | with_reducible exact Below.refl _ _ | with_reducible assumption | with_reducible refine bel_drew ?_ | with_reducible refine bel_alloc ?_ _ | with_reducible refine bel_set ?_ ?_ _ | with_reducible refine bel_call ?_ (by assumption) | (dsimp only; omega) | (simp; done) | (simp; omega)))
    clear hb s4 s4c0 s4c1 s4z p4
    have s5c0 : w5.cell? ⟨w.heap.size, 0, none⟩ = some (.int .u64 k) := s5.cell 0; have s5c1 : w5.cell? ⟨w.heap.size, 1, none⟩ = some (.float .f64 v) := s5.cell 1; have s5z := s5.lt
    rcases HT.out with j1 | ⟨j1, j2⟩ | ⟨j1, j2, j3⟩ | ⟨j1, j2, j3, rfl⟩
    all_goals
      go_wp2_with fail
      go_ret
      exact ⟨rfl, (by repeat' (first | with_reducible exact Below.refl _ _ | with_reducible assumption | with_reducible refine bel_drew ?_ | with_reducible refine bel_alloc ?_ _ | with_reducible refine bel_set ?_ ?_ _ | with_reducible refine bel_call ?_ (by assumption) | (dsimp only; omega) | (simp; done) | (simp; omega)))⟩
  · have hn0 : n < 1 := by omega
    clear C1 C2 HD HKN
    go_enter Try.func9, Try.ntmps9
    go_wp2_with fail
    refine (C0.out _).mono ?_
    rintro e w1 ⟨rfl, hb⟩
    have s1 : Blk w1 w.heap.size [.int .u64 k, .float .f64 v] 31 := Blk.below (by repeat' (first | with_reducible assumption | (show (_ : List Value) = _; rfl) | with_reducible exact Blk.new _ _ rfl | (with_reducible refine Blk.new _ _ ?_; simp; done) | with_reducible apply Blk.set_eq | with_reducible apply Blk.other | with_reducible apply Blk.alloc | with_reducible apply Blk.drew | (simp; done) | (simp; omega))) hb
    have p1 : Below w.heap.size w w1 := (by repeat' (first | with_reducible exact Below.refl _ _ | with_reducible assumption | with_reducible refine bel_drew ?_ | with_reducible refine bel_alloc ?_ _ | with_reducible refine bel_set ?_ ?_ _ | with_reducible refine bel_call ?_ (by assumption) | (dsimp only; omega) | (simp; done) | (simp; omega)))
    clear hb p
    have s1c0 : w1.cell? ⟨w.heap.size, 0, none⟩ = some (.int .u64 k) := s1.cell 0; have s1c1 : w1.cell? ⟨w.heap.size, 1, none⟩ = some (.float .f64 v) := s1.cell 1; have s1z := s1.lt
    go_wp2_with fail
    refine (C3.out _ _ ?_).mono ?_
    · exact (by repeat' (first | with_reducible assumption | (show (_ : List Value) = _; rfl) | with_reducible exact Blk.new _ _ rfl | (with_reducible refine Blk.new _ _ ?_; simp; done) | with_reducible apply Blk.set_eq | with_reducible apply Blk.other | with_reducible apply Blk.alloc | with_reducible apply Blk.drew | (simp; done) | (simp; omega)))
    rintro e w4 ⟨rfl, hb⟩
    have s4 : Blk w4 w.heap.size [.int .u64 k, .float .f64 v] 31 := Blk.below (by repeat' (first | with_reducible assumption | (show (_ : List Value) = _; rfl) | with_reducible exact Blk.new _ _ rfl | (with_reducible refine Blk.new _ _ ?_; simp; done) | with_reducible apply Blk.set_eq | with_reducible apply Blk.other | with_reducible apply Blk.alloc | with_reducible apply Blk.drew | (simp; done) | (simp; omega))) hb
    have p4 : Below w.heap.size w w4 := (by repeat' (first | with_reducible exact Below.refl _ _ | with_reducible assumption | with_reducible refine bel_drew ?_ | with_reducible refine bel_alloc ?_ _ | with_reducible refine bel_set ?_ ?_ _ | with_reducible refine bel_call ?_ (by assumption) | (dsimp only; omega) | (simp; done) | (simp; omega)))
    clear hb s1 s1c0 s1c1 s1z p1
    have s4c0 : w4.cell? ⟨w.heap.size, 0, none⟩ = some (.int .u64 k) := s4.cell 0; have s4c1 : w4.cell? ⟨w.heap.size, 1, none⟩ = some (.float .f64 v) := s4.cell 1; have s4z := s4.lt
    go_wp2_with fail
    refine (C4.out _).mono ?_
    rintro e w5 ⟨rfl, hb⟩
    have s5 : Blk w5 w.heap.size [.int .u64 k, .float .f64 v] 31 := Blk.below (by repeat' (first | with_reducible assumption | (show (_ : List Value) = _; rfl) | with_reducible exact Blk.new _ _ rfl | (with_reducible refine Blk.new _ _ ?_; simp; done) | with_reducible apply Blk.set_eq | with_reducible apply Blk.other | with_reducible apply Blk.alloc | with_reducible apply Blk.drew | (simp; done) | (simp; omega))) hb
    have p5 : Below w.heap.size w w5 := (by repeat' (first | with_reducible exact Below.refl _ _ | with_reducible assumption | with_reducible refine bel_drew ?_ | with_reducible refine bel_alloc ?_ _ | with_reducible refine bel_set ?_ ?_ _ | with_reducible refine bel_call ?_ (by assumption) | (dsimp only; omega) | (simp; done) | (simp; omega)))
    clear hb s4 s4c0 s4c1 s4z p4
    have s5c0 : w5.cell? ⟨w.heap.size, 0, none⟩ = some (.int .u64 k) := s5.cell 0; have s5c1 : w5.cell? ⟨w.heap.size, 1, none⟩ = some (.float .f64 v) := s5.cell 1; have s5z := s5.lt
    rcases HT.out with j1 | ⟨j1, j2⟩ | ⟨j1, j2, j3⟩ | ⟨j1, j2, j3, rfl⟩
    all_goals
      go_wp2_with fail
      go_ret
      exact ⟨rfl, (by repeat' (first | with_reducible exact Below.refl _ _ | with_reducible assumption | with_reducible refine bel_drew ?_ | with_reducible refine bel_alloc ?_ _ | with_reducible refine bel_set ?_ ?_ _ | with_reducible refine bel_call ?_ (by assumption) | (dsimp only; omega) | (simp; done) | (simp; omega)))⟩
end Go.Proofs.Ytgcbjpdmnlanoaa
