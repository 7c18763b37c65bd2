/- WALKS: Of of every kind, of the program and of the reference. -/
import Derived.Test.YtelofaceadlfmaaDoorAggB
import Derived.Test.YtelofaceadlfmaaDoorRefB
import Derived.Test.YtelofaceadlfmaaDoorFbitD
import Derived.Test.YtelofaceadlfmaaDoorRefE
namespace Go.Proofs.YtelofaceadlfmaaDoor
open Go.RowKit Fl
def u64 (n : Int) : Nat := (n % 18446744073709551616).toNat
theorem u64_wrap (n : Int) : IntKind.u64.wrap n = (u64 n : Int) := by
  show n % 18446744073709551616 = ((n % 18446744073709551616).toNat : Int)
  omega
theorem u64_lt (n : Int) : u64 n < 2 ^ 64 := by
  unfold u64
  omega
def ofV (k : Int) (x : Nat) : V := if k = 1 then ⟨true, 1⟩ else if k = 2 then ⟨true, u64 (Fl.whole x)⟩ else if k = 3 ∨ k = 4 then ⟨true, canon x⟩ else V.none
theorem ofV_ok {k : Int} {x : Nat} (h : x < 2 ^ 64) : (ofV k x).ok := by
  unfold ofV V.ok
  repeat' split
  · show 1 < 2 ^ 64; decide
  · exact u64_lt _
  · exact Fl.canon_lt h
  · decide
set_option maxHeartbeats 1000000 in
theorem aof_any (k : Int) (b : Nat) (w : World) (hb : b < 2 ^ 64) :
    Calls Tryd.prog 12 #[.int .i64 k, .float .f64 b] w fun e w' => e = .returned (.agg #[.bool (ofV k b).has, .int .u64 (ofV k b).bits]) ∧ Below w.heap.size w w' := by
  have C2 := Lib.hid some_any
  unfold ofV
  by_cases h1 : k = 1
  · subst h1
    rw [if_pos rfl]
    go_enter Tryd.func12, Tryd.ntmps12
    go_wp2_with fail
    refine (C2.out _ _).mono ?_
    rintro e w1 ⟨rfl, hb1⟩
    obtain ⟨hc, hf⟩ := bcell hb1
    go_wp2_with fail
    refine bodyPost_ret (v := .agg #[.bool true, .int .u64 1]) (by simp only [results, Tryd.results12]; go_simp) rfl ?_
    exact ⟨rfl, (by repeat' (first | with_reducible exact Below.refl _ _ | with_reducible assumption | with_reducible refine bel_drew ?_ | with_reducible refine bel_alloc ?_ _ | with_reducible refine bel_set ?_ ?_ _ | with_reducible refine bel_call ?_ (by assumption) | (dsimp only; omega) | (simp; done) | (simp; omega)))⟩
  by_cases h2 : k = 2
  · subst h2
    rw [if_neg (show ¬ (2 : Int) = 1 by decide), if_pos rfl]
    have C1 := Lib.hid (fun w => fwhole_any b w hb)
    have HU := Lib.hid (u64_wrap (Fl.whole b))
    generalize Fl.whole b = z at *
    go_enter Tryd.func12, Tryd.ntmps12
    go_wp2_with fail
    refine (C1.out _).mono ?_
    rintro e w1 ⟨rfl, rfl⟩
    go_wp2_with fail
    rw [HU.out]
    refine (C2.out _ _).mono ?_
    rintro e w1 ⟨rfl, hb1⟩
    obtain ⟨hc, hf⟩ := bcell hb1
    go_wp2_with fail
    refine bodyPost_ret (v := .agg #[.bool true, .int .u64 (u64 z : Int)]) (by simp only [results, Tryd.results12]; go_simp) rfl ?_
    exact ⟨rfl, (by repeat' (first | with_reducible exact Below.refl _ _ | with_reducible assumption | with_reducible refine bel_drew ?_ | with_reducible refine bel_alloc ?_ _ | with_reducible refine bel_set ?_ ?_ _ | with_reducible refine bel_call ?_ (by assumption) | (dsimp only; omega) | (simp; done) | (simp; omega)))⟩
  by_cases h3 : k = 3 ∨ k = 4
  · rw [if_neg h1, if_neg h2, if_pos h3]
    exact of_fl k b w h3 hb
  · rw [if_neg h1, if_neg h2, if_neg h3]
    have e1 : (k == 1) = false := beq_eq_false_iff_ne.2 h1
    have e2 : (k == 2) = false := beq_eq_false_iff_ne.2 h2
    have e3 : (k == 3) = false := beq_eq_false_iff_ne.2 (fun h => h3 (.inl h))
    have e4 : (k == 4) = false := beq_eq_false_iff_ne.2 (fun h => h3 (.inr h))
    clear h1 h2 h3
    go_enter Tryd.func12, Tryd.ntmps12
    go_wp2_with fail
    refine bodyPost_ret (v := .agg #[.bool false, .int .u64 0]) (by simp only [results, Tryd.results12]; go_simp) rfl ?_
    exact ⟨rfl, (by repeat' (first | with_reducible exact Below.refl _ _ | with_reducible assumption | with_reducible refine bel_drew ?_ | with_reducible refine bel_alloc ?_ _ | with_reducible refine bel_set ?_ ?_ _ | with_reducible refine bel_call ?_ (by assumption) | (dsimp only; omega) | (simp; done) | (simp; omega)))⟩
set_option maxHeartbeats 1000000 in
theorem raof_any (k : Int) (b : Nat) (w : World) (hb : b < 2 ^ 64) :
    Calls Tryd.prog 13 #[.int .i64 k, .float .f64 b] w fun e w' => e = .returned (.agg #[.bool (ofV k b).has, .int .u64 (ofV k b).bits]) ∧ Below w.heap.size w w' := by
  unfold ofV
  by_cases h1 : k = 1
  · subst h1
    rw [if_pos rfl]
    go_enter Tryd.func13, Tryd.ntmps13
    go_wp2_with fail
    refine bodyPost_ret (v := .agg #[.bool true, .int .u64 1]) (by simp only [results, Tryd.results13]; go_simp) rfl ?_
    exact ⟨rfl, (by repeat' (first | with_reducible exact Below.refl _ _ | with_reducible assumption | with_reducible refine bel_drew ?_ | with_reducible refine bel_alloc ?_ _ | with_reducible refine bel_set ?_ ?_ _ | with_reducible refine bel_call ?_ (by assumption) | (dsimp only; omega) | (simp; done) | (simp; omega)))⟩
  by_cases h2 : k = 2
  · subst h2
    rw [if_neg (show ¬ (2 : Int) = 1 by decide), if_pos rfl]
    have C1 := Lib.hid (fun w => rwhole_any b w hb)
    have HU := Lib.hid (u64_wrap (Fl.whole b))
    generalize Fl.whole b = z at *
    go_enter Tryd.func13, Tryd.ntmps13
    go_wp2_with fail
    refine (C1.out _).mono ?_
    rintro e w1 ⟨rfl, rfl⟩
    go_wp2_with fail
    refine bodyPost_ret (v := .agg #[.bool true, .int .u64 (IntKind.u64.wrap z)]) (by simp only [results, Tryd.results13]; go_simp) rfl ?_
    rw [HU.out]
    exact ⟨rfl, (by repeat' (first | with_reducible exact Below.refl _ _ | with_reducible assumption | with_reducible refine bel_drew ?_ | with_reducible refine bel_alloc ?_ _ | with_reducible refine bel_set ?_ ?_ _ | with_reducible refine bel_call ?_ (by assumption) | (dsimp only; omega) | (simp; done) | (simp; omega)))⟩
  by_cases h3 : k = 3 ∨ k = 4
  · rw [if_neg h1, if_neg h2, if_pos h3]
    exact rof_fl k b w h3 hb
  · rw [if_neg h1, if_neg h2, if_neg h3]
    have e1 : (k == 1) = false := beq_eq_false_iff_ne.2 h1
    have e2 : (k == 2) = false := beq_eq_false_iff_ne.2 h2
    have e3 : (k == 3) = false := beq_eq_false_iff_ne.2 (fun h => h3 (.inl h))
    have e4 : (k == 4) = false := beq_eq_false_iff_ne.2 (fun h => h3 (.inr h))
    clear h1 h2 h3
    go_enter Tryd.func13, Tryd.ntmps13
    go_wp2_with fail
    refine bodyPost_ret (v := .agg #[.bool false, .int .u64 0]) (by simp only [results, Tryd.results13]; go_simp) rfl ?_
    exact ⟨rfl, (by repeat' (first | with_reducible exact Below.refl _ _ | with_reducible assumption | with_reducible refine bel_drew ?_ | with_reducible refine bel_alloc ?_ _ | with_reducible refine bel_set ?_ ?_ _ | with_reducible refine bel_call ?_ (by assumption) | (dsimp only; omega) | (simp; done) | (simp; omega)))⟩
end Go.Proofs.YtelofaceadlfmaaDoor
