/- WALK of FbitOne. -/
import Derived.Test.YticlnanekjfdoaaRefF
import Derived.Test.YticlnanekjfdoaaLaw01Two
namespace Go.Proofs.Yticlnanekjfdoaa
open Go.RowKit
open Fl (nan key canon)
set_option maxRecDepth 100000 in
set_option maxHeartbeats 4000000 in
theorem one_any (a : Option Addr) (len cap rb ro : Nat) (f : Nat → Nat) (w : World) (hln : len ≤ 9223372036854775807) (ha : 0 < len → a = some ⟨rb, ro, none⟩) (hr : 0 < len → Fls w rb ro len f) :
    Calls Try.prog 3 #[.slice a len cap] w fun e w' => e = .returned (.bool true) ∧ Below w.heap.size w w' := by
  have C1 := Lib.hid awake_any
  have CS : Hid (∀ a w, Calls Try.prog 14 #[.float .f64 a, .float .f64 a] w fun e w' => e = .returned (.bool true) ∧ w = w') := Lib.hid (fun a w => by have c := same_any a a w; rw [decide_eq_true rfl] at c; exact c)
  have HA := Lib.hid ha
  have HR := Lib.hid hr
  have HL := Lib.hid hln
  clear ha hr hln
  go_enter Try.func3, Try.ntmps3
  go_wp2_with fail
  refine (C1.out _).mono ?_
  rintro e w1 ⟨rfl, hb1⟩
  have p1 : Below w.heap.size w w1 := (by repeat' (first | with_reducible exact Below.refl _ _ | with_reducible assumption | with_reducible refine bel_drew ?_ | with_reducible refine bel_alloc ?_ _ | with_reducible refine bel_set ?_ ?_ _ | with_reducible refine bel_call ?_ (by assumption) | (dsimp only; omega) | (simp; done) | (simp; omega)))
  clear hb1
  go_wp2_with fail
  go_loopg [3] len (fun g s3 wr => ∃ (i : Nat), i ≤ len ∧ g = len - i ∧ s3 = .int .i64 i ∧ Below w.heap.size w wr)
  case atStart => exact ⟨0, Nat.zero_le _, rfl, rfl, p1⟩
  case round =>
    clear p1 C1
    obtain ⟨i, hi, rfl, rfl, p⟩ := hrel
    by_cases hlt : i < len
    · obtain rfl := HA.out (by omega)
      have hr := HR.out (by omega)
      have hz2 : (i : Int) < (len : Int) := by omega
      have hw1 : IntKind.i64.wrap ((i : Int) + 1) = (i : Int) + 1 := Go.IntWalk.i64_in _ (by have := HL.out; omega)
      have x0 : wr.cell? ⟨rb, ro + i, none⟩ = some (.float .f64 (f i)) := (p.cell (p := ⟨rb, ro + i, none⟩) hr.lt).trans (hr.c0 i hlt)
      have hx := hr.ok i hlt
      generalize f i = x at *
      have C2 := Lib.hid (fun w => fclass_any x w hx)
      have C3 := Lib.hid (fun w => class_any x w hx)
      have C4 := Lib.hid (fun w => canon_any x w hx)
      have C5 := Lib.hid (fun w => rcanon_any x w hx)
      have C6 := Lib.hid (fun w => fwhole_any x w hx)
      have C7 := Lib.hid (fun w => rwhole_any x w hx)
      have C8 := Lib.hid (fun w => ffloor_any x w hx)
      have C9 := Lib.hid (fun w => rfloor_any x w hx)
      generalize Fl.cls x = c at *
      generalize Fl.whole x = W at *
      generalize floor x = F at *
      generalize canon x = K at *
      have hE : (c != c) = false := by simp
      have hE2 : (W != W) = false := by simp
      clear hr hx
      go_wp2_with fail
      refine (C2.out _).mono ?_
      rintro e v ⟨rfl, rfl⟩
      go_wp2_with fail
      refine (C3.out _).mono ?_
      rintro e v ⟨rfl, rfl⟩
      go_wp2_with fail
      refine (C4.out _).mono ?_
      rintro e v ⟨rfl, rfl⟩
      go_wp2_with fail
      refine (C5.out _).mono ?_
      rintro e v ⟨rfl, rfl⟩
      go_wp2_with fail
      refine (CS.out _ _).mono ?_
      rintro e v ⟨rfl, rfl⟩
      go_wp2_with fail
      refine (C6.out _).mono ?_
      rintro e v ⟨rfl, rfl⟩
      go_wp2_with fail
      refine (C7.out _).mono ?_
      rintro e v ⟨rfl, rfl⟩
      go_wp2_with fail
      refine (C8.out _).mono ?_
      rintro e v5 ⟨rfl, hb5⟩
      have p5 : Below w.heap.size w v5 := (by repeat' (first | with_reducible exact Below.refl _ _ | with_reducible assumption | with_reducible refine bel_drew ?_ | with_reducible refine bel_alloc ?_ _ | with_reducible refine bel_set ?_ ?_ _ | with_reducible refine bel_call ?_ (by assumption) | (dsimp only; omega) | (simp; done) | (simp; omega)))
      clear hb5
      go_wp2_with fail
      refine (C9.out _).mono ?_
      rintro e v ⟨rfl, rfl⟩
      go_wp2_with fail
      refine (CS.out _ _).mono ?_
      rintro e v' ⟨rfl, rfl⟩
      go_wp2_with fail
      go_roundg (len - (i + 1))
      case measure => omega
      case rel => exact ⟨i + 1, hlt, rfl, (by first | rfl | simp), (by repeat' (first | with_reducible exact Below.refl _ _ | with_reducible assumption | with_reducible refine bel_drew ?_ | with_reducible refine bel_alloc ?_ _ | with_reducible refine bel_set ?_ ?_ _ | with_reducible refine bel_call ?_ (by assumption) | (dsimp only; omega) | (simp; done) | (simp; omega)))⟩
    · have hz2 : ¬ ((i : Int) < (len : Int)) := by omega
      go_wp2_with fail
      go_ret
      exact ⟨rfl, p⟩
end Go.Proofs.Yticlnanekjfdoaa
