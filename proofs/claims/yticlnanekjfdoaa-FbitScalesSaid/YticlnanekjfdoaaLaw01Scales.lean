/- WALK of FbitScales. -/
import Derived.Test.YticlnanekjfdoaaRefG
import Derived.Test.YticlnanekjfdoaaLaw01Two
namespace Go.Proofs.Yticlnanekjfdoaa
open Go.RowKit
open Fl (nan key canon)
set_option maxRecDepth 100000 in
set_option maxHeartbeats 4000000 in
theorem scales_any (a : Option Addr) (len cap rb ro : Nat) (f : Nat → Nat) (n : Int) (w : World) (hln : len ≤ 9223372036854775807) (ha : 0 < len → a = some ⟨rb, ro, none⟩) (hr : 0 < len → Fls w rb ro len f) :
    Calls Try.prog 5 #[.slice a len cap, .int .i64 n] w fun e w' => e = .returned (.bool true) ∧ Below w.heap.size w w' := by
  have C1 := Lib.hid awake_any
  have CS : Hid (∀ a w, Calls Try.prog 14 #[.float .f64 a, .float .f64 a] w fun e w' => e = .returned (.bool true) ∧ w = w') := Lib.hid (fun a w => by have c := same_any a a w; rw [decide_eq_true rfl] at c; exact c)
  have HA := Lib.hid ha
  have HR := Lib.hid hr
  have HL := Lib.hid hln
  clear ha hr hln
  go_enter Try.func5, Try.ntmps5
  go_wp2_with fail
  refine (C1.out _).mono ?_
  rintro e w1 ⟨rfl, hb1⟩
  have p1 : Below w.heap.size w w1 := (by repeat' (first | with_reducible exact Below.refl _ _ | with_reducible assumption | with_reducible refine bel_drew ?_ | with_reducible refine bel_alloc ?_ _ | with_reducible refine bel_set ?_ ?_ _ | with_reducible refine bel_call ?_ (by assumption) | (dsimp only; omega) | (simp; done) | (simp; omega)))
  clear hb1
  go_wp2_with fail
  go_loopg [5] len (fun g s3 wr => ∃ (i : Nat), i ≤ len ∧ g = len - i ∧ s3 = .int .i64 i ∧ Below w.heap.size w wr)
  case atStart => exact ⟨0, Nat.zero_le _, rfl, rfl, p1⟩
  case round =>
    clear p1 C1
    obtain ⟨i, hi, rfl, rfl, p⟩ := hrel
    by_cases hlt : i < len
    · obtain rfl := HA.out (by omega)
      have hr := HR.out (by omega)
      have hz2 : (i : Int) < (len : Int) := by omega
      have hw1 : IntKind.i64.wrap ((i : Int) + 1) = (i : Int) + 1 := Go.IntWalk.i64_in _ (by have := HL.out; omega)
      have x0 : wr.cell? ⟨rb, ro + i, none⟩ = some (.float .f64 (f i)) := (p.cell (p := ⟨rb, ro + i, none⟩) hr.lt).trans (hr.c0 i hlt)
      have hx := hr.ok i hlt
      generalize f i = x at *
      have C2 := Lib.hid (fun w => fscale_any x n w hx)
      have C3 := Lib.hid (fun w => rscale_any x n w hx)
      generalize Fl.scl x n = r at *
      clear hr hx
      have rz : rb < wr.heap.size := Nat.lt_of_lt_of_le (HR.out (by omega)).lt p.size
      go_wp2_with fail
      refine wp_region_below (by kernel_rfl) (by kernel_rfl) ?_
      iterate 14 (first | (refine lex_skip (by rfl) (fun _ _ _ _ h => h) ?_; simp only [Act.put, List.setIfInBounds_toArray, List.set_cons_zero, List.set_cons_succ]) | (refine lex_op (by rfl) ?_; apply Exists.intro; refine ⟨?_, ?_⟩; ((intro _ _ _ _ hT; obtain ⟨hc, hf⟩ := bcell hT; go_simp; first | exact rfl | (first | with_reducible exact call_same hT (C2.out _) | with_reducible exact call_same hT (C3.out _) | with_reducible exact call_same hT (CS.out _ _)))); simp only [Act.put, List.setIfInBounds_toArray, List.set_cons_zero, List.set_cons_succ]))
      refine lex_nil ?_
      intro w5 hb5
      go_wp2_with fail
      go_roundg (len - (i + 1))
      case measure => omega
      case rel => exact ⟨i + 1, hlt, rfl, (by first | rfl | simp), (by repeat' (first | with_reducible exact Below.refl _ _ | with_reducible assumption | with_reducible refine bel_drew ?_ | with_reducible refine bel_alloc ?_ _ | with_reducible refine bel_set ?_ ?_ _ | with_reducible refine bel_call ?_ (by assumption) | (dsimp only; omega) | (simp; done) | (simp; omega)))⟩
    · have hz2 : ¬ ((i : Int) < (len : Int)) := by omega
      go_wp2_with fail
      go_ret
      exact ⟨rfl, p⟩
end Go.Proofs.Yticlnanekjfdoaa
