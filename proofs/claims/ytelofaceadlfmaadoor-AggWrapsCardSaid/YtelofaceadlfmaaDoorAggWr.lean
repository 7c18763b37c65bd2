/- WALK of AggWraps. -/
import Derived.Test.YtelofaceadlfmaaDoorAggY
namespace Go.Proofs.YtelofaceadlfmaaDoor
open Go.RowKit Fl
/-- S is the numeral of m, L digits long -/
structure Dig (S : ByteArray) (m L : Nat) : Prop where
  size : S.size = L
  pos : 1 ≤ L
  at_ : ∀ (i : Nat) (h : i < S.size), ((S[i]).toNat : Int) = 48 + ((m / 10 ^ (L - 1 - i) % 10 : Nat) : Int)
  lt : m < 10 ^ L
  lead : L = 1 ∨ 10 ^ (L - 1) ≤ m
theorem nDigits_lead (u : Nat) : Lib.nDigits u = 1 ∨ 10 ^ (Lib.nDigits u - 1) ≤ u := by
  induction u using Nat.strongRecOn with
  | _ u ih =>
    by_cases h : u < 10
    · exact .inl (Lib.nDigits_small h)
    · right
      rw [Lib.nDigits_big h, Nat.add_sub_cancel]
      rcases ih (u / 10) (by omega) with h1 | h1
      · rw [h1]; omega
      · have hp := Lib.nDigits_pos (u / 10)
        rw [show Lib.nDigits (u / 10) = (Lib.nDigits (u / 10) - 1) + 1 by omega, Nat.pow_succ]
        omega
theorem dig_of (u : Nat) : Dig ⟨(Lib.decDigits u).toArray⟩ u (Lib.nDigits u) := by
  have hs : (⟨(Lib.decDigits u).toArray⟩ : ByteArray).size = Lib.nDigits u := by simp [ByteArray.size, Lib.decDigits_length]
  refine ⟨hs, Lib.nDigits_pos u, fun i h => ?_, Lib.lt_pow_nDigits u, nDigits_lead u⟩
  have hi : i < Lib.nDigits u := by rw [← hs]; exact h
  have e : (⟨(Lib.decDigits u).toArray⟩ : ByteArray)[i] = Lib.dg u (Lib.nDigits u - 1 - i) := by
    show (Lib.decDigits u)[i]'(by rw [Lib.decDigits_length]; exact hi) = _
    simp [Lib.decDigits_eq]
  rw [e]
  unfold Lib.dg
  have := Nat.mod_lt (u / 10 ^ (Lib.nDigits u - 1 - i)) (show 0 < 10 by decide)
  generalize u / 10 ^ (Lib.nDigits u - 1 - i) % 10 = d at *
  rw [show (UInt8.ofNat (48 + d)).toNat = 48 + d by rw [UInt8.toNat_ofNat']; omega]
  omega
theorem dig_index {S : ByteArray} {m L : Nat} (h : Dig S m L) {i : Nat} (hi : i < L) (W : World) :
    (Instr.index 9 (.string S) (.int .i64 (i : Int))).run Tryd.prog W = .ok (.int .u8 (48 + ((m / 10 ^ (L - 1 - i) % 10 : Nat) : Int))) W := by
  have hs : i < S.size := by rw [h.size]; exact hi
  have := h.at_ i hs
  rw [← this]
  have hz : (i : Int) < (S.size : Int) := by omega
  go_simp
theorem tail_bytes (a : UInt8) (l : List UInt8) : (⟨(a :: l).toArray⟩ : ByteArray).extract 1 (⟨(a :: l).toArray⟩ : ByteArray).size = ⟨l.toArray⟩ := by
  apply ByteArray.ext
  simp [ByteArray.size]
theorem slice_tail (a : UInt8) (l : List UInt8) (W : World) : (Instr.slice 9 (.string ⟨(a :: l).toArray⟩) (some (.int .i64 1)) none none).run Tryd.prog W = .ok (.string ⟨l.toArray⟩) W := by
  have hs : (⟨(a :: l).toArray⟩ : ByteArray).size = l.length + 1 := by simp [ByteArray.size]
  rw [run_slice_string_from_if W 9 _ .i64 1 Tryd.underlying9, if_pos ⟨by decide, by rw [hs]; omega⟩]
  show Result.ok (Value.string ((⟨(a :: l).toArray⟩ : ByteArray).extract 1 _)) W = _
  rw [tail_bytes]
theorem merge_sum {k : Int} (hk : k = 1 ∨ k = 2) (a b : Nat) : merge k ⟨true, a⟩ ⟨true, b⟩ = ⟨true, (a + b) % 2 ^ 64⟩ := by
  rcases hk with rfl | rfl <;> rfl
set_option maxRecDepth 100000 in
set_option maxHeartbeats 8000000 in
theorem lwraps_any (b m : Nat) (w : World) (hb : b < 2 ^ 64) (hm : m < 2 ^ 64) (ht : Tab w) :
    Calls Tryd.prog 8 #[.int .u64 (b : Int), .int .u64 (m : Int)] w fun e w' => e = .returned (.bool true) ∧ Below w.heap.size w w' := by
  have C0 := Lib.hid (aawake_any w ht)
  have CT : Hid (∀ w2, Below w.heap.size w w2 → Calls Tryd.prog 18 #[.int .i64 2, .agg #[.bool true, .int .u64 (b : Int)]] w2 fun e w' => e = .returned (.string ⟨(Lib.itoa (wrap64 (b : Int))).toArray⟩) ∧ Below w2.heap.size w2 w') :=
    Lib.hid (fun w2 hb2 => text_sum b w2 hb (ht.below hb2))
  have M1 : Hid (∀ k : Int, k = 1 ∨ k = 2 → ∀ w, Calls Tryd.prog 16 #[.int .i64 k, .agg #[.bool true, .int .u64 (b : Int)], .agg #[.bool true, .int .u64 ((u64 (-(b : Int)) : Nat) : Int)]] w fun e w' => e = .returned (.agg #[.bool true, .int .u64 0]) ∧ Below w.heap.size w w') :=
    Lib.hid (fun k hk w => by
      have := merge_any k ⟨true, b⟩ ⟨true, u64 (-(b : Int))⟩ w hb (u64_lt _)
      rw [merge_sum hk, show (b + u64 (-(b : Int))) % 2 ^ 64 = 0 by unfold u64; omega] at this
      exact this)
  have M2 : Hid (∀ k : Int, k = 1 ∨ k = 2 → ∀ w, Calls Tryd.prog 16 #[.int .i64 k, .agg #[.bool true, .int .u64 (b : Int)], .agg #[.bool true, .int .u64 (m : Int)]] w fun e w' => e = .returned (.agg #[.bool true, .int .u64 (((b + m) % 2 ^ 64 : Nat) : Int)]) ∧ Below w.heap.size w w') :=
    Lib.hid (fun k hk w => by
      have := merge_any k ⟨true, b⟩ ⟨true, m⟩ w hb hm
      rw [merge_sum hk] at this
      exact this)
  have hng := u64_wrap (-(b : Int))
  have hadd : IntKind.u64.wrap ((b : Int) + (m : Int)) = (((b + m) % 2 ^ 64 : Nat) : Int) := by rw [IntKind.wrap_u64]; omega
  generalize u64 (-(b : Int)) = nb at *
  generalize (b + m) % 2 ^ 64 = s at *
  have HB := Lib.hid hb
  have hE : ((s : Int) != (s : Int)) = false := by simp
  clear ht hb hm
  go_enter Tryd.func8, Tryd.ntmps8
  go_wp2_with fail
  refine C0.out.mono ?_
  rintro e w1 ⟨rfl, hb⟩
  have p1 : Below w.heap.size w w1 := (by repeat' (first | with_reducible exact Below.refl _ _ | with_reducible assumption | with_reducible refine bel_drew ?_ | with_reducible refine bel_alloc ?_ _ | with_reducible refine bel_set ?_ ?_ _ | with_reducible refine bel_call ?_ (by assumption) | (dsimp only; omega) | (simp; done) | (simp; omega)))
  clear hb C0
  go_wp2_with fail
  refine wp_forget (X := fun W => Below w.heap.size w W ∧ Blk W w1.heap.size [.bool true, .int .u64 (b : Int)] 27) ⟨(by repeat' (first | with_reducible exact Below.refl _ _ | with_reducible assumption | with_reducible refine bel_drew ?_ | with_reducible refine bel_alloc ?_ _ | with_reducible refine bel_set ?_ ?_ _ | with_reducible refine bel_call ?_ (by assumption) | (dsimp only; omega) | (simp; done) | (simp; omega))), (by repeat' (first | with_reducible assumption | (show (_ : List Value) = _; rfl) | with_reducible exact Blk.new _ _ rfl | (with_reducible refine Blk.new _ _ ?_; simp; done) | with_reducible apply Blk.set_eq | with_reducible apply Blk.other | with_reducible apply Blk.alloc | with_reducible apply Blk.drew | (simp; done) | (simp; omega)))⟩ ?_
  clear p1
  generalize w1.heap.size = b5 at *
  rintro w2 ⟨p2, q2⟩
  go_loopg [6] 2 (fun g s6 wr => ∃ (i : Nat), i ≤ 2 ∧ g = 2 - i ∧ s6 = .int .i64 ((i : Int) + 1) ∧ Below w.heap.size w wr ∧ Blk wr b5 [.bool true, .int .u64 (b : Int)] 27)
  case atStart => exact ⟨0, by omega, rfl, rfl, p2, q2⟩
  case round =>
    clear p2 q2
    obtain ⟨i, hi, rfl, rfl, p, q⟩ := hrel
    have qc0 : wr.cell? ⟨b5, 0, none⟩ = some (.bool true) := q.cell 0; have qc1 : wr.cell? ⟨b5, 1, none⟩ = some (.int .u64 (b : Int)) := q.cell 1; have qz := q.lt
    by_cases hlt : i < 2
    · have hz2 : (i : Int) + 1 ≤ 2 := by omega
      have M1' := Lib.hid (M1.out ((i : Int) + 1) (by omega))
      have M2' := Lib.hid (M2.out ((i : Int) + 1) (by omega))
      go_wp2_with fail
      refine (M1'.out _).mono ?_
      rintro e w3 ⟨rfl, hb⟩
      have p3 : Below w.heap.size w w3 := (by repeat' (first | with_reducible exact Below.refl _ _ | with_reducible assumption | with_reducible refine bel_drew ?_ | with_reducible refine bel_alloc ?_ _ | with_reducible refine bel_set ?_ ?_ _ | with_reducible refine bel_call ?_ (by assumption) | (dsimp only; omega) | (simp; done) | (simp; omega)))
      have q3 := q.below hb
      clear hb p q qc0 qc1 qz
      have q3c0 : w3.cell? ⟨b5, 0, none⟩ = some (.bool true) := q3.cell 0; have q3c1 : w3.cell? ⟨b5, 1, none⟩ = some (.int .u64 (b : Int)) := q3.cell 1; have q3z := q3.lt
      go_wp2_with fail
      refine (M2'.out _).mono ?_
      rintro e w4 ⟨rfl, hb⟩
      have p4 : Below w.heap.size w w4 := (by repeat' (first | with_reducible exact Below.refl _ _ | with_reducible assumption | with_reducible refine bel_drew ?_ | with_reducible refine bel_alloc ?_ _ | with_reducible refine bel_set ?_ ?_ _ | with_reducible refine bel_call ?_ (by assumption) | (dsimp only; omega) | (simp; done) | (simp; omega)))
      have q4 := q3.below hb
      clear hb p3 q3 q3c0 q3c1 q3z M1' M2'
      have hw1 : IntKind.i64.wrap ((i : Int) + 1 + 1) = (i : Int) + 1 + 1 := Go.IntWalk.i64_in _ (by omega)
      go_wp2_with fail
      go_roundg (2 - (i + 1))
      case measure => omega
      case rel => exact ⟨i + 1, by omega, rfl, (by first | rfl | simp), p4, q4⟩
    · obtain rfl : i = 2 := by omega
      go_wp2_with fail
      refine (CT.out _ p).mono ?_
      rintro e w5 ⟨rfl, hb⟩
      have p5 : Below w.heap.size w w5 := (by repeat' (first | with_reducible exact Below.refl _ _ | with_reducible assumption | with_reducible refine bel_drew ?_ | with_reducible refine bel_alloc ?_ _ | with_reducible refine bel_set ?_ ?_ _ | with_reducible refine bel_call ?_ (by assumption) | (dsimp only; omega) | (simp; done) | (simp; omega)))
      clear hb p q qc0 qc1 qz CT M1 M2 hng hadd hE
      by_cases hh : 2 ^ 63 ≤ b
      case' pos =>
        rw [itoa_high b HB.out hh]
        have hD := dig_of (2 ^ 64 - b)
        have hmm : 2 ^ 64 - b ≤ 9223372036854775808 := by omega
        have hneg : IntKind.u64.wrap (-((2 ^ 64 - b : Nat) : Int)) = (b : Int) := by rw [IntKind.wrap_u64]; have := HB.out; omega
        have hz : ((9223372036854775808 : Int) ≤ (b : Int)) = True := eq_true (by omega)
        have hSs : (⟨(45 :: Lib.decDigits (2 ^ 64 - b)).toArray⟩ : ByteArray).size = Lib.nDigits (2 ^ 64 - b) + 1 := by simp [ByteArray.size, Lib.decDigits_length]
        have hi0 : ∀ W, (Instr.index 9 (.string ⟨(45 :: Lib.decDigits (2 ^ 64 - b)).toArray⟩) (.int .i64 0)).run Tryd.prog W = .ok (.int .u8 45) W := fun W => by go_simp; rfl
        have hsl : ∀ W, (Instr.slice 9 (.string ⟨(45 :: Lib.decDigits (2 ^ 64 - b)).toArray⟩) (some (.int .i64 1)) none none).run Tryd.prog W = .ok (.string ⟨(Lib.decDigits (2 ^ 64 - b)).toArray⟩) W := fun W => slice_tail _ _ W
        generalize (⟨(45 :: Lib.decDigits (2 ^ 64 - b)).toArray⟩ : ByteArray) = S at *
        generalize (⟨(Lib.decDigits (2 ^ 64 - b)).toArray⟩ : ByteArray) = D at *
        generalize Lib.nDigits (2 ^ 64 - b) = L at *
        generalize 2 ^ 64 - b = mm at *
        have hL := hD.pos
        have hs1 : (1 : Int) < (S.size : Int) := by omega
        have HF := Lib.hid hneg
        have HD := Lib.hid hD
        clear hD hh hSs hneg
        go_wp2_with fail
      case' neg =>
        rw [itoa_low b (by omega)]
        have hD := dig_of b
        have hmm : b ≤ 9223372036854775808 := by omega
        have hz : ((9223372036854775808 : Int) ≤ (b : Int)) = False := eq_false (by omega)
        generalize (⟨(Lib.decDigits b).toArray⟩ : ByteArray) = D at *
        generalize Lib.nDigits b = L at *
        obtain ⟨mm, hmb⟩ : ∃ mm, b = mm := ⟨_, rfl⟩
        rw [hmb] at hD hmm
        have HMB := Lib.hid hmb
        clear hmb
        have hL := hD.pos
        have hDs := hD.size
        have hi0 : ∀ W, (Instr.index 9 (.string D) (.int .i64 0)).run Tryd.prog W = .ok (.int .u8 (48 + ((mm / 10 ^ (L - 1 - 0) % 10 : Nat) : Int))) W := fun W => dig_index hD (i := 0) (by omega) W
        generalize mm / 10 ^ (L - 1 - 0) % 10 = c at *
        have hne : ((48 + (c : Int)) == 45) = false := by simp; omega
        have HD := Lib.hid hD
        have hc9' := Nat.mod_lt (mm / 10 ^ (L - 1 - 0)) (show 0 < 10 by decide)
        clear hD hh
        by_cases hs1' : 1 < L
        case' pos => have hs1 : (1 : Int) < (L : Int) := by omega
        case' neg => have hs1 : ¬ (1 : Int) < (L : Int) := by omega
        all_goals
          clear hs1' hc9'
          go_wp2_with fail
      all_goals
        go_loopg [9, 10] L (fun g s9 s10 wr => ∃ (i : Nat), i ≤ L ∧ g = L - i ∧ s10 = .int .i64 i ∧ s9 = .int .u64 ((mm / 10 ^ (L - i) : Nat) : Int) ∧ Below w.heap.size w wr)
        case atStart => exact ⟨0, Nat.zero_le _, rfl, rfl, by rw [Nat.sub_zero, Nat.div_eq_of_lt HD.out.lt]; rfl, p5⟩
        case round =>
          clear p5
          obtain ⟨i, hi, rfl, rfl, rfl, p⟩ := hrel
          have hDs := HD.out.size
          by_cases hlt : i < L
          · have hz2 : (i : Int) < (D.size : Int) := by omega
            have hL20 : L ≤ 20 := by
              rcases HD.out.lead with h | h
              · omega
              · rcases Nat.lt_or_ge L 21 with h21 | h21
                · omega
                · have := Nat.pow_le_pow_right (show 0 < 10 by decide) (show 20 ≤ L - 1 by omega)
                  rw [show (10 : Nat) ^ 20 = 100000000000000000000 by decide] at this
                  omega
            have hw1 : IntKind.i64.wrap ((i : Int) + 1) = (i : Int) + 1 := Go.IntWalk.i64_in _ (by omega)
            have hix := fun W => dig_index HD.out hlt W
            have hstep : mm / 10 ^ (L - (i + 1)) = mm / 10 ^ (L - i) * 10 + mm / 10 ^ (L - 1 - i) % 10 := by
              rw [show L - i = (L - 1 - i) + 1 by omega, show L - (i + 1) = L - 1 - i by omega, Nat.pow_succ, ← Nat.div_div_eq_div_mul]
              omega
            have hle : mm / 10 ^ (L - (i + 1)) ≤ mm := Nat.div_le_self _ _
            have hc := Nat.mod_lt (mm / 10 ^ (L - 1 - i)) (show 0 < 10 by decide)
            have hlead : i = 0 → 1 < L → mm / 10 ^ (L - 1 - i) % 10 ≠ 0 := fun h0 h1 => by
              subst h0
              have h2 := HD.out.lt
              rcases HD.out.lead with h | h
              · omega
              · rw [Nat.sub_zero]
                have h3 : 1 ≤ mm / 10 ^ (L - 1) := (Nat.le_div_iff_mul_le (Nat.pow_pos (by decide))).2 (by omega)
                have h4 : mm / 10 ^ (L - 1) < 10 := (Nat.div_lt_iff_lt_mul (Nat.pow_pos (by decide))).2 (by rw [show L = L - 1 + 1 by omega, Nat.pow_succ, Nat.mul_comm] at h2; exact h2)
                omega
            generalize mm / 10 ^ (L - 1 - i) % 10 = c at *
            generalize mm / 10 ^ (L - i) = n at *
            have hS := Lib.hid hstep
            rw [hstep] at hle
            have hb1 : (n : Int) * 10 + (c : Int) ≤ 18446744073709551615 := by omega
            have hb2 : (n : Int) * 10 ≤ 18446744073709551615 := by omega
            have hc9 : (c : Int) ≤ 9 := by omega
            have t1 : decide ((48 : Int) + (c : Int) < 48) = false := by simp; omega
            have t2 : decide ((57 : Int) < 48 + (c : Int)) = false := by simp; omega
            have tz : (i : Int) < (L : Int) := by omega
            clear hstep hle
            by_cases h0 : i = 0
            · have hi0' : ((i : Int) == 0) = true := by simp; omega
              by_cases h1 : 1 < L
              · have hcz : (((48 : Int) + (c : Int)) == 48) = false := by have := hlead h0 h1; simp; omega
                clear hlead h0 h1
                go_wp2_with fail
                all_goals
                  go_roundg (L - (i + 1))
                  case measure => omega
                  case rel => exact ⟨i + 1, hlt, rfl, (by first | rfl | simp), by rw [hS.out, Int.natCast_add, Int.natCast_mul]; congr 1; omega, p⟩
              · have hs2 : ¬ ((1 : Int) < (L : Int)) := by omega
                clear hlead h0 h1
                go_wp2_with fail
                all_goals
                  go_roundg (L - (i + 1))
                  case measure => omega
                  case rel => exact ⟨i + 1, hlt, rfl, (by first | rfl | simp), by rw [hS.out, Int.natCast_add, Int.natCast_mul]; congr 1; omega, p⟩
            · have hi0' : ((i : Int) == 0) = false := by simp; omega
              clear hlead h0
              go_wp2_with fail
              all_goals
                go_roundg (L - (i + 1))
                case measure => omega
                case rel => exact ⟨i + 1, hlt, rfl, (by first | rfl | simp), by rw [hS.out, Int.natCast_add, Int.natCast_mul]; congr 1; omega, p⟩
          · obtain rfl : L = i := by omega
            have hLi : ¬ (L : Int) < (L : Int) := by omega
            have hL0 : (0 : Int) < (L : Int) := by omega
            rw [Nat.sub_self, Nat.pow_zero, Nat.div_one]
            have hE2 : ((b : Int) == (b : Int)) = true := by simp
            first
              | (have hneg' := HF.out
                 go_wp2_with fail
                 go_ret
                 exact ⟨rfl, p⟩)
              | (have hmb := HMB.out
                 subst hmb
                 go_wp2_with fail
                 go_ret
                 exact ⟨rfl, p⟩)
end Go.Proofs.YtelofaceadlfmaaDoor
