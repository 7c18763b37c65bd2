/- WALK of FbitLattice. -/
import Derived.Test.YticlnanekjfdoaaLaw01A
namespace Go.Proofs.Yticlnanekjfdoaa
open Go.RowKit
open Fl (nan key canon ord least most rank)
theorem ord_le {a b : Nat} (h : rank a ≤ rank b) : ¬ 0 < ord a b := by
  unfold Fl.ord
  split
  · decide
  · rw [if_neg (by omega)]; decide
theorem ord_ge {a b : Nat} (h : rank b ≤ rank a) : ¬ ord a b < 0 := by
  unfold Fl.ord
  rw [if_neg (by omega)]
  split <;> decide
theorem least_le {a b : Nat} (h : rank a ≤ rank b) : least a b = canon a := by unfold Fl.least; rw [if_neg (ord_le h)]
theorem most_ge {a b : Nat} (h : rank b ≤ rank a) : most a b = canon a := by unfold Fl.most; rw [if_neg (ord_ge h)]
set_option maxRecDepth 100000 in
set_option maxHeartbeats 8000000 in
theorem lattice_any (a b c : Nat) (w : World) (ha : a < 2 ^ 64) (hb : b < 2 ^ 64) (hc : c < 2 ^ 64) :
    Calls Try.prog 7 #[.float .f64 a, .float .f64 b, .float .f64 c] w fun e w' => e = .returned (.bool true) ∧ Below w.heap.size w w' := by
  have C1 := Lib.hid awake_any
  have CL := Lib.hid (fun a b w => least_any a b w)
  have CM := Lib.hid (fun a b w => most_any a b w)
  have CC := Lib.hid (fun a w => canon_any a w)
  have CO := Lib.hid (fun a b w => order_any a b w)
  have CT : Hid (∀ a b w, a = b → Calls Try.prog 14 #[.float .f64 a, .float .f64 b] w fun e w' => e = .returned (.bool true) ∧ w = w') := Lib.hid (fun a b w h => by have c := same_any a b w; rw [decide_eq_true h] at c; exact c)
  have CF : Hid (∀ a b w, a ≠ b → Calls Try.prog 14 #[.float .f64 a, .float .f64 b] w fun e w' => e = .returned (.bool false) ∧ w = w') := Lib.hid (fun a b w h => by have c := same_any a b w; rw [decide_eq_false h] at c; exact c)
  have E1 : Hid (least a b = least b a) := Lib.hid (Fl.least_of_rank ha hb hb ha (by omega))
  have E2 : Hid (most a b = most b a) := Lib.hid (Fl.most_of_rank ha hb hb ha (by omega))
  have E3 : Hid (least a a = canon a) := Lib.hid (least_le (Int.le_refl _))
  have E4 : Hid (most a a = canon a) := Lib.hid (most_ge (Int.le_refl _))
  have E5 : Hid (least (least a b) c = least a (least b c)) := Lib.hid (Fl.least_of_rank (Fl.least_lt ha hb) hc ha (Fl.least_lt hb hc) (by rw [Fl.rank_least, Fl.rank_least]; omega))
  have E6 : Hid (most (most a b) c = most a (most b c)) := Lib.hid (Fl.most_of_rank (Fl.most_lt ha hb) hc ha (Fl.most_lt hb hc) (by rw [Fl.rank_most, Fl.rank_most]; omega))
  have E7 : Hid (least a (most a b) = canon a) := Lib.hid (least_le (by rw [Fl.rank_most]; omega))
  have E8 : Hid (most a (least a b) = canon a) := Lib.hid (most_ge (by rw [Fl.rank_least]; omega))
  have h9 : ¬ 0 < ord (least a b) (most a b) := ord_le (by rw [Fl.rank_least, Fl.rank_most]; omega)
  have E10 : Hid (least a b = canon a ∨ least a b = canon b) := Lib.hid (by unfold Fl.least; split <;> simp)
  have E11 : Hid (most a b = canon a ∨ most a b = canon b) := Lib.hid (by unfold Fl.most; split <;> simp)
  have HA := Lib.hid ha
  have HB := Lib.hid hb
  have HC := Lib.hid hc
  clear ha hb hc
  have p : Below w.heap.size w w := Below.refl _ _
  by_cases i1 : least a b = canon a <;> by_cases i2 : most a b = canon a
  all_goals
    have I1 := Lib.hid i1
    have I2 := Lib.hid i2
    have I3 : Hid (¬ least a b = canon a → least a b = canon b) := Lib.hid (fun h => E10.out.resolve_left h)
    have I4 : Hid (¬ most a b = canon a → most a b = canon b) := Lib.hid (fun h => E11.out.resolve_left h)
    clear i1 i2
    go_enter Try.func7, Try.ntmps7
    go_wp2_with fail
    refine (C1.out _).mono ?_
    rintro e v ⟨rfl, hb⟩
    replace p := bel_call p hb
    clear hb
    repeat
      (go_wp2_with fail
       first
         | (refine (CL.out _ _ _ ?h1 ?h2).mono ?_
            case h1 => repeat' (first | exact HA.out | exact HB.out | exact HC.out | apply Fl.least_lt | apply Fl.most_lt | apply Fl.canon_lt)
            case h2 => repeat' (first | exact HA.out | exact HB.out | exact HC.out | apply Fl.least_lt | apply Fl.most_lt | apply Fl.canon_lt)
            rintro e v ⟨rfl, hb⟩
            replace p := bel_call p hb
            clear hb)
         | (refine (CM.out _ _ _ ?h1 ?h2).mono ?_
            case h1 => repeat' (first | exact HA.out | exact HB.out | exact HC.out | apply Fl.least_lt | apply Fl.most_lt | apply Fl.canon_lt)
            case h2 => repeat' (first | exact HA.out | exact HB.out | exact HC.out | apply Fl.least_lt | apply Fl.most_lt | apply Fl.canon_lt)
            rintro e v ⟨rfl, hb⟩
            replace p := bel_call p hb
            clear hb)
         | (refine (CO.out _ _ _ ?h1 ?h2).mono ?_
            case h1 => repeat' (first | exact HA.out | exact HB.out | exact HC.out | apply Fl.least_lt | apply Fl.most_lt | apply Fl.canon_lt)
            case h2 => repeat' (first | exact HA.out | exact HB.out | exact HC.out | apply Fl.least_lt | apply Fl.most_lt | apply Fl.canon_lt)
            rintro e v ⟨rfl, hb⟩
            replace p := bel_call p hb
            clear hb)
         | (refine (CC.out _ _ ?h1).mono ?_
            case h1 => repeat' (first | exact HA.out | exact HB.out | exact HC.out | apply Fl.least_lt | apply Fl.most_lt | apply Fl.canon_lt)
            rintro e v ⟨rfl, rfl⟩)
         | (refine (CT.out _ _ _ ?h1).mono ?_
            case h1 => first | exact E1.out | exact E2.out | exact E3.out | exact E4.out | exact E5.out | exact E6.out | exact E7.out | exact E8.out | exact I1.out | exact I2.out | exact I3.out I1.out | exact I4.out I2.out
            rintro e v ⟨rfl, rfl⟩)
         | (refine (CF.out _ _ _ ?h1).mono ?_
            case h1 => first | exact I1.out | exact I2.out
            rintro e v ⟨rfl, rfl⟩))
    go_wp2_with fail
    go_ret
    exact ⟨rfl, p⟩
end Go.Proofs.Yticlnanekjfdoaa
