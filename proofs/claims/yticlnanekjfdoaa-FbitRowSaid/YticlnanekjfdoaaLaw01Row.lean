/- WALK of FbitRow. -/
import Derived.Test.YticlnanekjfdoaaLaw01Lat
namespace Go.Proofs.Yticlnanekjfdoaa
open Go.RowKit
open Fl (nan key canon ord rank)
theorem ord_lt {a b : Nat} (h : rank a < rank b) : ord a b = -1 := by unfold Fl.ord; rw [if_pos h]
theorem ord_gt {a b : Nat} (h : rank b < rank a) : ord a b = 1 := by unfold Fl.ord; rw [if_neg (by omega), if_pos h]
theorem ord_same {a b : Nat} (h : rank a = rank b) : ord a b = 0 := by unfold Fl.ord; rw [if_neg (by omega), if_neg (by omega)]
theorem rank_nan {a : Nat} (h : nan a = true) : rank a = 9223372036854775807 := by unfold Fl.rank; rw [h]; rfl
theorem rank_num {a : Nat} (h : nan a = false) : rank a = if 2 ^ 63 ≤ a then -1 - ((a : Int) - 2 ^ 63) else (a : Int) := by unfold Fl.rank; rw [h]; rfl
theorem rank_lt_nan {a : Nat} (ha : a < 2 ^ 64) (h : nan a = false) : rank a < 9223372036854775807 := by
  rw [rank_num h]
  rw [Fl.nan_false] at h
  split <;> omega
theorem rank_eq {a b : Nat} (ha : a < 2 ^ 64) (hb : b < 2 ^ 64) (na : nan a = false) (nb : nan b = false) (h : rank a = rank b) : a = b := by
  rw [rank_num na, rank_num nb] at h
  split at h <;> split at h <;> omega
theorem key_rank {a b : Nat} (ha : a < 2 ^ 64) (hb : b < 2 ^ 64) (na : nan a = false) (nb : nan b = false) (hz : ¬ (ab a = 0 ∧ ab b = 0)) : key a < key b ↔ rank a < rank b := by
  rw [rank_num na, rank_num nb]
  unfold ab at hz
  unfold Fl.key
  split <;> split <;> omega
set_option maxRecDepth 100000 in
set_option maxHeartbeats 16000000 in
theorem row_any (a b c : Nat) (w : World) (ha : a < 2 ^ 64) (hb : b < 2 ^ 64) (hc : c < 2 ^ 64) :
    Calls Try.prog 6 #[.float .f64 a, .float .f64 b, .float .f64 c] w fun e w' => e = .returned (.bool true) ∧ Below w.heap.size w w' := by
  have C1 := Lib.hid awake_any
  have c2 := fun w => order_any a b w ha hb
  have c3 := fun w => order_any b c w hb hc
  have c4 := fun w => order_any a c w ha hc
  have c5 := fun w => order_any b a w hb ha
  have c6 := fun w => same_any a b w
  have n1 := neq_self 24 ha
  have n2 := neq_self 24 hb
  have p : Below w.heap.size w w := Below.refl _ _
  have key1 : (nan a = true ∧ nan b = true ∧ rank a = rank b ∧ True) ∨ (nan a = true ∧ nan b = false ∧ rank b < rank a ∧ decide (a = b) = false) ∨ (nan a = false ∧ nan b = true ∧ rank a < rank b ∧ decide (a = b) = false) ∨ (nan a = false ∧ nan b = false ∧ rank a < rank b ∧ decide (a = b) = false) ∨ (nan a = false ∧ nan b = false ∧ rank b < rank a ∧ decide (a = b) = false) ∨ (nan a = false ∧ nan b = false ∧ rank a = rank b ∧ decide (a = b) = true) := by
    cases na : nan a <;> cases nb : nan b
    · rcases Int.lt_trichotomy (rank a) (rank b) with h | h | h
      · exact .inr (.inr (.inr (.inl ⟨rfl, rfl, h, decide_eq_false (fun e => by subst e; omega)⟩)))
      · exact .inr (.inr (.inr (.inr (.inr ⟨rfl, rfl, h, decide_eq_true (rank_eq ha hb na nb h)⟩))))
      · exact .inr (.inr (.inr (.inr (.inl ⟨rfl, rfl, h, decide_eq_false (fun e => by subst e; omega)⟩))))
    · exact .inr (.inr (.inl ⟨rfl, rfl, by rw [rank_nan nb]; exact rank_lt_nan ha na, decide_eq_false (fun e => by subst e; rw [na] at nb; cases nb)⟩))
    · exact .inr (.inl ⟨rfl, rfl, by rw [rank_nan na]; exact rank_lt_nan hb nb, decide_eq_false (fun e => by subst e; rw [na] at nb; cases nb)⟩)
    · exact .inl ⟨rfl, rfl, by rw [rank_nan na, rank_nan nb], trivial⟩
  have key2 : nan a = false → nan b = false → ¬ (ab a = 0 ∧ ab b = 0) → (key a < key b ↔ rank a < rank b) ∧ (key b < key a ↔ rank b < rank a) := fun na nb hz => ⟨key_rank ha hb na nb hz, key_rank hb ha nb na (fun h => hz ⟨h.2, h.1⟩)⟩
  have tri : ∀ x y : Nat, (rank x < rank y ∧ ord x y = -1) ∨ (rank x = rank y ∧ ord x y = 0) ∨ (rank y < rank x ∧ ord x y = 1) := fun x y => by
    rcases Int.lt_trichotomy (rank x) (rank y) with h | h | h
    · exact .inl ⟨h, ord_lt h⟩
    · exact .inr (.inl ⟨h, ord_same h⟩)
    · exact .inr (.inr ⟨h, ord_gt h⟩)
  have z1 := fun h => eql_zero 24 ha h
  have z2 := fun h => eql_zero 24 hb h
  have l1 := fun h h' => lss_num 24 ha hb h h'
  have l2 := fun h h' => gtr_num 24 ha hb h h'
  have Z1 := Lib.hid z1
  have Z2 := Lib.hid z2
  have L1 := Lib.hid l1
  have L2 := Lib.hid l2
  have K2 := Lib.hid key2
  clear z1 z2 l1 l2 key2 ha hb hc
  have t1 := tri b c
  have t2 := tri a c
  have t3 := tri a b
  have t4 := tri b a
  clear tri
  rcases t1 with ⟨r1, o1⟩ | ⟨r1, o1⟩ | ⟨r1, o1⟩ <;> rcases t2 with ⟨r2, o2⟩ | ⟨r2, o2⟩ | ⟨r2, o2⟩ <;> rcases t3 with ⟨r3, o3⟩ | ⟨r3, o3⟩ | ⟨r3, o3⟩ <;> rcases t4 with ⟨r4, o4⟩ | ⟨r4, o4⟩ | ⟨r4, o4⟩ <;> try (exfalso; omega)
  all_goals
    rw [o3] at c2
    rw [o1] at c3
    rw [o2] at c4
    rw [o4] at c5
    have C2 := Lib.hid c2
    have C3 := Lib.hid c3
    have C4 := Lib.hid c4
    have C5 := Lib.hid c5
    clear c2 c3 c4 c5 o1 o2 o3 o4
    have R := Lib.hid (And.intro r3 r4)
    rcases key1 with ⟨na, nb, k1, k2⟩ | ⟨na, nb, k1, k2⟩ | ⟨na, nb, k1, k2⟩ | ⟨na, nb, k1, k2⟩ | ⟨na, nb, k1, k2⟩ | ⟨na, nb, k1, k2⟩ <;> try (exfalso; omega)
  all_goals
    rw [na] at n1
    rw [nb] at n2
    first
      | rw [k2] at c6
      | (by_cases k3 : a = b
         case' pos => rw [decide_eq_true k3] at c6
         case' neg => rw [decide_eq_false k3] at c6
         all_goals clear k3)
  all_goals
    have C6 := Lib.hid c6
    clear c6 r1 r2 r3 r4 k1 k2
    first
      | (have z1 := Z1.out na
         have z2 := Z2.out nb
         have l1 := L1.out na nb
         have l2 := L2.out na nb
         by_cases y1 : ab a = 0 <;> by_cases y2 : ab b = 0 <;>
         first
           | (have K := K2.out na nb (by intro h; first | exact y1 h.1 | exact y2 h.2)
              first | rw [decide_eq_true y1] at z1 | rw [decide_eq_false y1] at z1
              first | rw [decide_eq_true y2] at z2 | rw [decide_eq_false y2] at z2
              first | rw [decide_eq_true (K.1.2 (by have := R.out; omega))] at l1 | rw [decide_eq_false (fun h => absurd (K.1.1 h) (by have := R.out; omega))] at l1
              first | rw [decide_eq_true (K.2.2 (by have := R.out; omega))] at l2 | rw [decide_eq_false (fun h => absurd (K.2.1 h) (by have := R.out; omega))] at l2
              clear y1 y2 K)
           | (rw [decide_eq_true y1] at z1; rw [decide_eq_true y2] at z2; clear y1 y2 l1 l2))
      | skip
  all_goals
    clear Z1 Z2 L1 L2 K2 na nb R
    go_enter Try.func6, Try.ntmps6
    go_wp2_with fail
    refine (C1.out _).mono ?_
    rintro e v ⟨rfl, hb⟩
    replace p := bel_call p hb
    clear hb
    go_wp2_with fail
    refine (C2.out _).mono ?_
    rintro e v ⟨rfl, hb⟩
    replace p := bel_call p hb
    clear hb
    go_wp2_with fail
    refine (C3.out _).mono ?_
    rintro e v ⟨rfl, hb⟩
    replace p := bel_call p hb
    clear hb
    go_wp2_with fail
    refine (C4.out _).mono ?_
    rintro e v ⟨rfl, hb⟩
    replace p := bel_call p hb
    clear hb
    go_wp2_with fail
    refine (C5.out _).mono ?_
    rintro e v ⟨rfl, hb⟩
    replace p := bel_call p hb
    clear hb
    go_wp2_with fail
    refine (C6.out _).mono ?_
    rintro e v ⟨rfl, rfl⟩
    go_wp2_with fail
    go_ret
    exact ⟨rfl, p⟩
end Go.Proofs.Yticlnanekjfdoaa
