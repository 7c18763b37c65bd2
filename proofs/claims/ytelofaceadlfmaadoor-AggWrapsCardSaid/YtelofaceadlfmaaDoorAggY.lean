/- WALK: the reference's Text. -/
import Derived.Test.YtelofaceadlfmaaDoorAggX
namespace Go.Proofs.YtelofaceadlfmaaDoor
open Go.RowKit Fl
def hexN : Nat → Nat → List UInt8
  | 0, _ => []
  | n + 1, v => hexN n (v / 16) ++ [hd (v % 16)]
theorem hexN_front : ∀ (n v : Nat), hexN (n + 1) v = hd (v / 16 ^ n % 16) :: hexN n v
  | 0, v => by simp [hexN]
  | n + 1, v => by
    rw [hexN, hexN_front n (v / 16), Nat.div_div_eq_div_mul, ← Nat.pow_succ']
    rfl
theorem hexN_zero : ∀ n : Nat, hexN n 0 = Lib.repeatL [48] n
  | 0 => rfl
  | n + 1 => by
    rw [hexN_front, Nat.zero_div, hexN_zero n]
    rfl
theorem repeatL_snoc : ∀ n : Nat, Lib.repeatL [48] n ++ [48] = Lib.repeatL [48] (n + 1)
  | 0 => rfl
  | n + 1 => by
    show [48] ++ Lib.repeatL [48] n ++ [48] = [48] ++ Lib.repeatL [48] (n + 1)
    rw [List.append_assoc, repeatL_snoc n]
theorem hexN_pad : ∀ (n v : Nat), v < 16 ^ (n + 1) → hexN (n + 1) v = Lib.repeatL [48] (n + 1 - (hexD v).length) ++ hexD v
  | 0, v, h => by
    rw [hexD_small (by omega)]
    show [] ++ [hd (v % 16)] = [] ++ [hd v]
    rw [Nat.mod_eq_of_lt (by omega)]
  | n + 1, v, h => by
    by_cases hs : v < 16
    · rw [hexD_small hs, hexN, Nat.div_eq_of_lt hs, hexN_zero, Nat.mod_eq_of_lt hs]
      rfl
    · rw [hexN, hexN_pad n (v / 16) (by rw [Nat.pow_succ] at h; omega), hexD_big hs, List.append_assoc, List.length_append, List.length_singleton]
      congr 2
      omega
theorem hex16_eq (b : Nat) (h : b < 2 ^ 64) : hex16 b = hexN 16 b := (hexN_pad 15 b (by rw [show (16 : Nat) ^ 16 = 2 ^ 64 by decide]; exact h)).symm
theorem itoa_high (b : Nat) (h : b < 2 ^ 64) (hb : 2 ^ 63 ≤ b) : Lib.itoa (wrap64 (b : Int)) = 45 :: Lib.decDigits (2 ^ 64 - b) := by
  have e : wrap64 (b : Int) = -((2 ^ 64 - b : Nat) : Int) := by unfold wrap64; omega
  rw [e]
  unfold Lib.itoa
  rw [if_pos (by omega)]
  congr 2
  omega
theorem itoa_low (b : Nat) (hb : b < 2 ^ 63) : Lib.itoa (wrap64 (b : Int)) = Lib.decDigits b := by
  have e : wrap64 (b : Int) = (b : Int) := by unfold wrap64; omega
  rw [e]
  unfold Lib.itoa
  rw [if_neg (by omega)]
  rfl
set_option maxRecDepth 100000 in
set_option maxHeartbeats 8000000 in
theorem rtext_any (k : Int) (v : V) (w : World) (hv : v.ok) :
    Calls Tryd.prog 19 #[.int .i64 k, .agg #[.bool v.has, .int .u64 v.bits]] w fun e w' => e = .returned (.string ⟨(txt k v).toArray⟩) ∧ Below w.heap.size w w' := by
  have C1 := Lib.hid (fun w => rknown_any k w)
  have C2 := Lib.hid (fun w => rfit_any k v w hv)
  have hfo : (fit k v).bits < 2 ^ 64 := fit_ok hv
  unfold txt
  cases hk : known k with
  | false =>
    rw [hk] at C1
    rw [if_pos rfl]
    clear C2 hv hfo hk
    obtain ⟨vh, vb⟩ := v
    go_enter Tryd.func19, Tryd.ntmps19
    go_wp2_with fail
    refine (C1.out _).mono ?_
    rintro e w1 ⟨rfl, rfl⟩
    go_wp2_with fail
    go_ret
    exact ⟨rfl, (by repeat' (first | with_reducible exact Below.refl _ _ | with_reducible assumption | with_reducible refine bel_drew ?_ | with_reducible refine bel_alloc ?_ _ | with_reducible refine bel_set ?_ ?_ _ | with_reducible refine bel_call ?_ (by assumption) | (dsimp only; omega) | (simp; done) | (simp; omega)))⟩
  | true =>
    rw [hk] at C1
    rw [if_neg (by decide)]
    generalize fit k v = f at *
    obtain ⟨vh, vb⟩ := v
    obtain ⟨fh, fb⟩ := f
    dsimp only at *
    generalize hT : (if fh = false then [45] else if k = 1 then Lib.decDigits fb else if k = 2 then Lib.itoa (wrap64 (fb : Int)) else hex16 fb) = T
    have HT := Lib.hid hT
    clear hT
    go_enter Tryd.func19, Tryd.ntmps19
    go_wp2_with fail
    refine (C1.out _).mono ?_
    rintro e w1 ⟨rfl, rfl⟩
    go_wp2_with fail
    refine (C2.out _).mono ?_
    rintro e w1 ⟨rfl, hb⟩
    have p1 : Below w.heap.size w w1 := (by repeat' (first | with_reducible exact Below.refl _ _ | with_reducible assumption | with_reducible refine bel_drew ?_ | with_reducible refine bel_alloc ?_ _ | with_reducible refine bel_set ?_ ?_ _ | with_reducible refine bel_call ?_ (by assumption) | (dsimp only; omega) | (simp; done) | (simp; omega)))
    have q1 : Blk w1 w.heap.size [.bool vh, .int .u64 (vb : Int)] 27 := Blk.below (by repeat' (first | with_reducible assumption | (show (_ : List Value) = _; rfl) | with_reducible exact Blk.new _ _ rfl | (with_reducible refine Blk.new _ _ ?_; simp; done) | with_reducible apply Blk.set_eq | with_reducible apply Blk.other | with_reducible apply Blk.alloc | with_reducible apply Blk.drew | (simp; done) | (simp; omega))) hb
    clear hb
    have q1c0 : w1.cell? ⟨w.heap.size, 0, none⟩ = some (.bool vh) := q1.cell 0; have q1c1 : w1.cell? ⟨w.heap.size, 1, none⟩ = some (.int .u64 (vb : Int)) := q1.cell 1; have q1z := q1.lt
    have f0 := q1.free 0
    have f1 := q1.free 1
    cases fh with
    | false =>
      have hT := HT.out
      rw [if_pos rfl] at hT
      subst hT
      clear HT
      go_wp2_with fail
      go_ret
      exact ⟨rfl, (by repeat' (first | with_reducible exact Below.refl _ _ | with_reducible assumption | with_reducible refine bel_drew ?_ | with_reducible refine bel_alloc ?_ _ | with_reducible refine bel_set ?_ ?_ _ | with_reducible refine bel_call ?_ (by assumption) | (dsimp only; omega) | (simp; done) | (simp; omega)))⟩
    | true =>
      have hT := HT.out
      rw [if_neg (by decide)] at hT
      clear HT
      by_cases h1 : k = 1
      · subst h1
        rw [if_pos rfl] at hT
        have C3 := Lib.hid (fun w => rdec_any fb w hfo)
        rw [hT] at C3
        clear hT
        go_wp2_with fail
        refine (C3.out _).mono ?_
        rintro e w2 ⟨rfl, rfl⟩
        go_wp2_with fail
        go_ret
        exact ⟨rfl, (by repeat' (first | with_reducible exact Below.refl _ _ | with_reducible assumption | with_reducible refine bel_drew ?_ | with_reducible refine bel_alloc ?_ _ | with_reducible refine bel_set ?_ ?_ _ | with_reducible refine bel_call ?_ (by assumption) | (dsimp only; omega) | (simp; done) | (simp; omega)))⟩
      rw [if_neg h1] at hT
      have e1 : (k == 1) = false := beq_eq_false_iff_ne.2 h1
      by_cases h2 : k = 2
      · subst h2
        rw [if_pos rfl] at hT
        by_cases hh : 2 ^ 63 ≤ fb
        · have hz : (9223372036854775808 : Int) ≤ (fb : Int) := by omega
          rw [itoa_high fb hfo hh] at hT
          have C3 := Lib.hid (fun w => rdec_any (2 ^ 64 - fb) w (by omega))
          have hng : IntKind.u64.wrap (-(fb : Int)) = ((2 ^ 64 - fb : Nat) : Int) := by rw [IntKind.wrap_u64]; omega
          have hdl : (Lib.decDigits (2 ^ 64 - fb)).length ≤ 20 := by
            rw [Lib.decDigits_length]
            have := Lib.numDigits_eq (2 ^ 64 - fb) (by omega) (by omega)
            split at this <;> omega
          generalize Lib.decDigits (2 ^ 64 - fb) = ds at *
          generalize 2 ^ 64 - fb = nb at *
          have hsum : ¬ 9223372036854775807 < 1 + ds.length := by omega
          have HT := Lib.hid hT
          clear hT h1 e1 hh hdl
          go_wp2_with fail
          refine (C3.out _).mono ?_
          rintro e w2 ⟨rfl, rfl⟩
          go_wp2_with fail
          go_ret
          exact ⟨by rw [← HT.out, cons_bytes]; rfl, (by repeat' (first | with_reducible exact Below.refl _ _ | with_reducible assumption | with_reducible refine bel_drew ?_ | with_reducible refine bel_alloc ?_ _ | with_reducible refine bel_set ?_ ?_ _ | with_reducible refine bel_call ?_ (by assumption) | (dsimp only; omega) | (simp; done) | (simp; omega)))⟩
        · have hz : ((9223372036854775808 : Int) ≤ (fb : Int)) = False := eq_false (by omega)
          rw [itoa_low fb (by omega)] at hT
          have C3 := Lib.hid (fun w => rdec_any fb w hfo)
          rw [hT] at C3
          clear hT h1 e1 hh hfo
          go_wp2_with fail
          refine (C3.out _).mono ?_
          rintro e w2 ⟨rfl, rfl⟩
          go_wp2_with fail
          go_ret
          exact ⟨rfl, (by repeat' (first | with_reducible exact Below.refl _ _ | with_reducible assumption | with_reducible refine bel_drew ?_ | with_reducible refine bel_alloc ?_ _ | with_reducible refine bel_set ?_ ?_ _ | with_reducible refine bel_call ?_ (by assumption) | (dsimp only; omega) | (simp; done) | (simp; omega)))⟩
      · rw [if_neg h2, hex16_eq fb hfo] at hT
        have e2 : (k == 2) = false := beq_eq_false_iff_ne.2 h2
        have HT := Lib.hid hT
        clear hT h1 h2
        go_wp2_with fail
        refine wp_forget (X := fun W => Below w.heap.size w W ∧ Blk W w.heap.size [.bool true, .int .u64 (fb : Int)] 27) ⟨(by repeat' (first | with_reducible exact Below.refl _ _ | with_reducible assumption | with_reducible refine bel_drew ?_ | with_reducible refine bel_alloc ?_ _ | with_reducible refine bel_set ?_ ?_ _ | with_reducible refine bel_call ?_ (by assumption) | (dsimp only; omega) | (simp; done) | (simp; omega))), (by repeat' (first | with_reducible assumption | (show (_ : List Value) = _; rfl) | with_reducible exact Blk.new _ _ rfl | (with_reducible refine Blk.new _ _ ?_; simp; done) | with_reducible apply Blk.set_eq | with_reducible apply Blk.other | with_reducible apply Blk.alloc | with_reducible apply Blk.drew | (simp; done) | (simp; omega)))⟩ ?_
        clear q1 p1 q1c0 q1c1 q1z f0 f1 C1 C2
        rintro w2 ⟨p2, q2⟩
        go_loopg [6, 7] 16 (fun g s6 s7 wr => ∃ (i : Nat), i ≤ 16 ∧ g = 16 - i ∧ s7 = .int .i64 i ∧ s6 = .string ⟨(hexN i fb).toArray⟩ ∧ Below w.heap.size w wr ∧ Blk wr w.heap.size [.bool true, .int .u64 (fb : Int)] 27)
        case atStart => exact ⟨0, by omega, rfl, rfl, rfl, p2, q2⟩
        case round =>
          clear p2 q2
          obtain ⟨i, hi, rfl, rfl, rfl, p, q⟩ := hrel
          by_cases hlt : i < 16
          · have hz2 : (i : Int) < 16 := by omega
            have hw1 : IntKind.i64.wrap ((i : Int) + 1) = (i : Int) + 1 := Go.IntWalk.i64_in _ (by omega)
            have hf := hexN_front i fb
            have hp := run_piece16 (fb / 16 ^ i % 16) (Nat.mod_lt _ (by decide))
            have hxl : fb / 16 ^ i < 2 ^ 64 := Nat.lt_of_le_of_lt (Nat.div_le_self _ _) hfo
            have hlen : (hexN i fb).length = i := by
              have : ∀ n v, (hexN n v).length = n := fun n => by
                induction n with
                | zero => intro v; rfl
                | succ n ih => intro v; rw [hexN, List.length_append, ih]; rfl
              exact this i fb
            have hsh : (fb : Int) / 2 ^ (4 * i) = ((fb / 16 ^ i : Nat) : Int) := by
              have e : (2 : Nat) ^ (4 * i) = 16 ^ i := by rw [Nat.pow_mul]
              have e2 : (2 : Int) ^ (4 * i) = ((2 ^ (4 * i) : Nat) : Int) := by simp
              rw [e2, e]
              rfl
            generalize fb / 16 ^ i = y at *
            have hy : (y : Int) ≤ 18446744073709551615 := by omega
            rw [show ((y % 16 : Nat) : Int) = (y : Int) % 16 by omega] at hp
            generalize hd (y % 16) = x at *
            generalize hexN i fb = ds at *
            have HF := Lib.hid hf
            have hsum : ¬ 9223372036854775807 < 1 + ds.length := by omega
            have qc0 : wr.cell? ⟨w.heap.size, 0, none⟩ = some (.bool true) := q.cell 0; have qc1 : wr.cell? ⟨w.heap.size, 1, none⟩ = some (.int .u64 (fb : Int)) := q.cell 1; have qz := q.lt
            clear hf
            go_wp2_with fail
            go_roundg (16 - (i + 1))
            case measure => omega
            case rel => exact ⟨i + 1, by omega, rfl, (by first | rfl | simp), by rw [cons_bytes, HF.out], p, q⟩
          · obtain rfl : i = 16 := by omega
            go_wp2_with fail
            go_ret
            exact ⟨by rw [← HT.out]; rfl, p⟩
end Go.Proofs.YtelofaceadlfmaaDoor
