/- WALK of FbitTwo. -/
import Derived.Test.YticlnanekjfdoaaLaw01A
import Derived.Deep.LoopGhost
namespace Go.Proofs.Yticlnanekjfdoaa
open Go.RowKit
open Fl (nan key canon ord least most)
theorem wp_world {P : Program} {c : Code} {Q : Exit → Act → World → Prop} {a : Act} {W : World} {X : World → Prop} (h : X W) (k : ∀ W', X W' → c.wp P Q a W') : c.wp P Q a W := k W h
/-- the floats of a slice -/
structure Fls (w : World) (b o len : Nat) (f : Nat → Nat) : Prop where
  lt : b < w.heap.size
  ok : ∀ i, i < len → f i < 2 ^ 64
  c0 : ∀ i, i < len → w.cell? ⟨b, o + i, none⟩ = some (.float .f64 (f i))
set_option maxRecDepth 100000 in
set_option maxHeartbeats 4000000 in
theorem two_any (a : Option Addr) (len cap rb ro : Nat) (f : Nat → Nat) (w : World) (hln : len ≤ 9223372036854775807) (ha : 0 < len → a = some ⟨rb, ro, none⟩) (hr : 0 < len → Fls w rb ro len f) :
    Calls Try.prog 4 #[.slice a len cap] w fun e w' => e = .returned (.bool true) ∧ Below w.heap.size w w' := by
  have C1 := Lib.hid awake_any
  have CS : Hid (∀ a w, Calls Try.prog 14 #[.float .f64 a, .float .f64 a] w fun e w' => e = .returned (.bool true) ∧ w = w') := Lib.hid (fun a w => by have c := same_any a a w; rw [decide_eq_true rfl] at c; exact c)
  have HA := Lib.hid ha
  have HR := Lib.hid hr
  have HL := Lib.hid hln
  clear ha hr hln
  go_enter Try.func4, Try.ntmps4
  go_wp2_with fail
  refine (C1.out _).mono ?_
  rintro e w1 ⟨rfl, hb1⟩
  have p1 : Below w.heap.size w w1 := (by repeat' (first | with_reducible exact Below.refl _ _ | with_reducible assumption | with_reducible refine bel_drew ?_ | with_reducible refine bel_alloc ?_ _ | with_reducible refine bel_set ?_ ?_ _ | with_reducible refine bel_call ?_ (by assumption) | (dsimp only; omega) | (simp; done) | (simp; omega)))
  clear hb1
  go_wp2_with fail
  go_loopg [3] len (fun g s3 wr => ∃ (i : Nat), i ≤ len ∧ g = len - i ∧ s3 = .int .i64 i ∧ Below w.heap.size w wr)
  case atStart => exact ⟨0, Nat.zero_le _, rfl, rfl, p1⟩
  case round =>
    clear p1 C1
    obtain ⟨i, hi, rfl, rfl, p⟩ := hrel
    by_cases hlt : i < len
    · obtain rfl := HA.out (by omega)
      have hr := HR.out (by omega)
      have hz2 : (i : Int) < (len : Int) := by omega
      obtain ⟨j, hj⟩ : ∃ j, j = (i + 1) % len := ⟨_, rfl⟩
      have hjl : j < len := by rw [hj]; exact Nat.mod_lt _ (by omega)
      have hjz : (j : Int) < (len : Int) := by omega
      have hw1 : IntKind.i64.wrap ((i : Int) + 1) = (i : Int) + 1 := Go.IntWalk.i64_in _ (by have := HL.out; omega)
      have hln0 : ((len : Int) == 0) = false := by simp; omega
      have hrem : Int.tmod ((i : Int) + 1) (len : Int) = (j : Int) := by
        rw [Int.tmod_eq_emod_of_nonneg (by omega), hj]
        simp
      have hrem2 : ((i : Int) + 1) % (len : Int) = (j : Int) := by rw [hj]; simp
      have x0 : wr.cell? ⟨rb, ro + i, none⟩ = some (.float .f64 (f i)) := (p.cell (p := ⟨rb, ro + i, none⟩) hr.lt).trans (hr.c0 i hlt)
      have x1 : wr.cell? ⟨rb, ro + j, none⟩ = some (.float .f64 (f j)) := (p.cell (p := ⟨rb, ro + j, none⟩) hr.lt).trans (hr.c0 j hjl)
      have hx := hr.ok i hlt
      have hy := hr.ok j hjl
      generalize f i = x at *
      generalize f j = y at *
      have c2 := fun w => order_any x y w hx hy
      have c3 := fun w => rorder_any x y w hx hy
      have c4 := fun w => least_any x y w hx hy
      have c5 := fun w => rleast_any x y w hx hy
      have c6 := fun w => most_any x y w hx hy
      have c7 := fun w => rmost_any x y w hx hy
      have hE : (ord x y != ord x y) = false := by simp
      have C2 := Lib.hid c2
      have C3 := Lib.hid c3
      have C4 := Lib.hid c4
      have C5 := Lib.hid c5
      have C6 := Lib.hid c6
      have C7 := Lib.hid c7
      have HJ := Lib.hid hj
      clear c2 c3 c4 c5 c6 c7 hr hx hy hj
      go_wp2_with fail
      refine (C2.out _).mono ?_
      rintro e v1 ⟨rfl, hb1⟩
      have p1 : Below w.heap.size w v1 := (by repeat' (first | with_reducible exact Below.refl _ _ | with_reducible assumption | with_reducible refine bel_drew ?_ | with_reducible refine bel_alloc ?_ _ | with_reducible refine bel_set ?_ ?_ _ | with_reducible refine bel_call ?_ (by assumption) | (dsimp only; omega) | (simp; done) | (simp; omega)))
      clear hb1 x0 x1 p
      go_wp2_with fail
      refine (C3.out _).mono ?_
      first
        | rintro e v' ⟨rfl, rfl⟩
        | (rintro e v2 ⟨rfl, hb2⟩; have p2 : Below w.heap.size w v2 := (by repeat' (first | with_reducible exact Below.refl _ _ | with_reducible assumption | with_reducible refine bel_drew ?_ | with_reducible refine bel_alloc ?_ _ | with_reducible refine bel_set ?_ ?_ _ | with_reducible refine bel_call ?_ (by assumption) | (dsimp only; omega) | (simp; done) | (simp; omega))); clear hb2)
      go_wp2_with fail
      refine (C4.out _).mono ?_
      rintro e v3 ⟨rfl, hb3⟩
      have p3 : Below w.heap.size w v3 := (by repeat' (first | with_reducible exact Below.refl _ _ | with_reducible assumption | with_reducible refine bel_drew ?_ | with_reducible refine bel_alloc ?_ _ | with_reducible refine bel_set ?_ ?_ _ | with_reducible refine bel_call ?_ (by assumption) | (dsimp only; omega) | (simp; done) | (simp; omega)))
      clear hb3
      go_wp2_with fail
      refine (C5.out _).mono ?_
      first
        | rintro e v' ⟨rfl, rfl⟩
        | (rintro e v4 ⟨rfl, hb4⟩; have p4 : Below w.heap.size w v4 := (by repeat' (first | with_reducible exact Below.refl _ _ | with_reducible assumption | with_reducible refine bel_drew ?_ | with_reducible refine bel_alloc ?_ _ | with_reducible refine bel_set ?_ ?_ _ | with_reducible refine bel_call ?_ (by assumption) | (dsimp only; omega) | (simp; done) | (simp; omega))); clear hb4)
      go_wp2_with fail
      refine (CS.out _ _).mono ?_
      rintro e v' ⟨rfl, rfl⟩
      go_wp2_with fail
      refine (C6.out _).mono ?_
      rintro e v5 ⟨rfl, hb5⟩
      have p5 : Below w.heap.size w v5 := (by repeat' (first | with_reducible exact Below.refl _ _ | with_reducible assumption | with_reducible refine bel_drew ?_ | with_reducible refine bel_alloc ?_ _ | with_reducible refine bel_set ?_ ?_ _ | with_reducible refine bel_call ?_ (by assumption) | (dsimp only; omega) | (simp; done) | (simp; omega)))
      clear hb5
      go_wp2_with fail
      refine (C7.out _).mono ?_
      first
        | rintro e v' ⟨rfl, rfl⟩
        | (rintro e v6 ⟨rfl, hb6⟩; have p6 : Below w.heap.size w v6 := (by repeat' (first | with_reducible exact Below.refl _ _ | with_reducible assumption | with_reducible refine bel_drew ?_ | with_reducible refine bel_alloc ?_ _ | with_reducible refine bel_set ?_ ?_ _ | with_reducible refine bel_call ?_ (by assumption) | (dsimp only; omega) | (simp; done) | (simp; omega))); clear hb6)
      go_wp2_with fail
      refine (CS.out _ _).mono ?_
      rintro e v' ⟨rfl, rfl⟩
      go_wp2_with fail
      go_roundg (len - (i + 1))
      case measure => omega
      case rel => exact ⟨i + 1, hlt, rfl, (by first | rfl | simp), (by repeat' (first | with_reducible exact Below.refl _ _ | with_reducible assumption | with_reducible refine bel_drew ?_ | with_reducible refine bel_alloc ?_ _ | with_reducible refine bel_set ?_ ?_ _ | with_reducible refine bel_call ?_ (by assumption) | (dsimp only; omega) | (simp; done) | (simp; omega)))⟩
    · have hz2 : ¬ ((i : Int) < (len : Int)) := by omega
      go_wp2_with fail
      go_ret
      exact ⟨rfl, p⟩
end Go.Proofs.Yticlnanekjfdoaa
