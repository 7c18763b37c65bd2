/- WALKS of AggOf, AggMerge. -/
import Derived.Test.YtelofaceadlfmaaDoorAggQ
import Derived.Test.YtelofaceadlfmaaDoorLaw01Two
namespace Go.Proofs.YtelofaceadlfmaaDoor
open Go.RowKit Fl
set_option maxRecDepth 100000 in
set_option maxHeartbeats 4000000 in
theorem lof_any (k : Int) (a : Option Addr) (len cap rb ro : Nat) (f : Nat → Nat) (w : World) (ht : Tab w) (hln : len ≤ 9223372036854775807) (ha : 0 < len → a = some ⟨rb, ro, none⟩) (hr : 0 < len → Fls w rb ro len f) :
    Calls Tryd.prog 3 #[.int .i64 k, .slice a len cap] w fun e w' => e = .returned (.bool true) ∧ Below w.heap.size w w' := by
  have C0 := Lib.hid (aawake_any w ht)
  have C1 := Lib.hid (fun w => known_any k w)
  have C2 := Lib.hid (fun w => rknown_any k w)
  have HR := Lib.hid hr
  have HA := Lib.hid ha
  have HL := Lib.hid hln
  generalize known k = kn at *
  have hE : (kn != kn) = false := by simp
  clear hr ha hln ht
  go_enter Tryd.func3, Tryd.ntmps3
  go_wp2_with fail
  refine C0.out.mono ?_
  rintro e w1 ⟨rfl, hb⟩
  have p1 : Below w.heap.size w w1 := (by repeat' (first | with_reducible exact Below.refl _ _ | with_reducible assumption | with_reducible refine bel_drew ?_ | with_reducible refine bel_alloc ?_ _ | with_reducible refine bel_set ?_ ?_ _ | with_reducible refine bel_call ?_ (by assumption) | (dsimp only; omega) | (simp; done) | (simp; omega)))
  clear hb C0
  go_wp2_with fail
  refine (C1.out _).mono ?_
  rintro e w2 ⟨rfl, rfl⟩
  go_wp2_with fail
  refine (C2.out _).mono ?_
  rintro e w2 ⟨rfl, rfl⟩
  go_wp2_with fail
  go_loopg [5] len (fun g s5 wr => ∃ (i : Nat), i ≤ len ∧ g = len - i ∧ s5 = .int .i64 i ∧ Below w.heap.size w wr)
  case atStart => exact ⟨0, Nat.zero_le _, rfl, rfl, p1⟩
  case round =>
    clear p1 hE C1 C2
    obtain ⟨i, hi, rfl, rfl, p⟩ := hrel
    by_cases hlt : i < len
    · obtain rfl := HA.out (by omega)
      have hz2 : (i : Int) < (len : Int) := by omega
      have hw1 : IntKind.i64.wrap ((i : Int) + 1) = (i : Int) + 1 := Go.IntWalk.i64_in _ (by have := HL.out; omega)
      have HX : Hid (∀ w', Below w.heap.size w w' → rb < w'.heap.size ∧ w'.cell? ⟨rb, ro + i, none⟩ = some (.float .f64 (f i))) :=
        Lib.hid (fun w' p => ⟨Nat.lt_of_lt_of_le (HR.out (by omega)).lt p.size, (p.cell (p := ⟨rb, ro + i, none⟩) (HR.out (by omega)).lt).trans ((HR.out (by omega)).c0 i hlt)⟩)
      have hfo := (HR.out (by omega)).ok i hlt
      have CO := Lib.hid (fun k w => aof_any k (f i) w hfo)
      have CR := Lib.hid (fun k w => raof_any k (f i) w hfo)
      clear HR HA HL hfo
      generalize f i = x at *
      go_wp2_with fail
      go_loopg [6] 6 (fun g s6 wr => ∃ (j : Nat), j ≤ 6 ∧ g = 6 - j ∧ s6 = .int .i64 j ∧ Below w.heap.size w wr)
      case atStart => exact ⟨0, by omega, rfl, rfl, p⟩
      case round =>
        clear p
        obtain ⟨j, hj, rfl, rfl, p⟩ := hrel
        obtain ⟨rz, x0⟩ := HX.out _ p
        by_cases hlj : j < 6
        · have hz3 : (j : Int) < 6 := by omega
          have hw2 : IntKind.i64.wrap ((j : Int) + 1) = (j : Int) + 1 := Go.IntWalk.i64_in _ (by omega)
          have CO' := Lib.hid (fun w => CO.out (j : Int) w)
          have CR' := Lib.hid (fun w => CR.out (j : Int) w)
          generalize ofV (j : Int) x = v at *
          clear CO CR
          go_wp2_with fail
          refine wp_region_below (by kernel_rfl) (by kernel_rfl) ?_
          iterate 13 (first | (refine lex_skip (by rfl) (fun _ _ _ _ h => h) ?_; simp only [Act.put, List.setIfInBounds_toArray, List.set_cons_zero, List.set_cons_succ]) | (refine lex_op (by rfl) ?_; apply Exists.intro; refine ⟨?_, ?_⟩; ((intro _ _ _ _ hT; obtain ⟨hc, hf⟩ := bcell hT; go_simp; first | exact rfl | (with_reducible exact call_below hT (CO'.out _)) | (with_reducible exact call_below hT (CR'.out _)))); simp only [Act.put, List.setIfInBounds_toArray, List.set_cons_zero, List.set_cons_succ]))
          refine lex_nil ?_
          intro w2 bel2
          have p2 : Below w.heap.size w w2 := (by repeat' (first | with_reducible exact Below.refl _ _ | with_reducible assumption | with_reducible refine bel_drew ?_ | with_reducible refine bel_alloc ?_ _ | with_reducible refine bel_set ?_ ?_ _ | with_reducible refine bel_call ?_ (by assumption) | (dsimp only; omega) | (simp; done) | (simp; omega)))
          clear x0 rz bel2 CO' CR'
          go_wp2_with fail
          go_roundg (6 - (j + 1))
          case measure => omega
          case rel => exact ⟨j + 1, hlj, rfl, (by first | rfl | simp), p2⟩
        · obtain rfl : j = 6 := by omega
          have CO' := Lib.hid (fun w => CO.out k w)
          have CR' := Lib.hid (fun w => CR.out k w)
          generalize ofV k x = v at *
          clear CO CR
          go_wp2_with fail
          refine wp_region_below (by kernel_rfl) (by kernel_rfl) ?_
          iterate 13 (first | (refine lex_skip (by rfl) (fun _ _ _ _ h => h) ?_; simp only [Act.put, List.setIfInBounds_toArray, List.set_cons_zero, List.set_cons_succ]) | (refine lex_op (by rfl) ?_; apply Exists.intro; refine ⟨?_, ?_⟩; ((intro _ _ _ _ hT; obtain ⟨hc, hf⟩ := bcell hT; go_simp; first | exact rfl | (with_reducible exact call_below hT (CO'.out _)) | (with_reducible exact call_below hT (CR'.out _)))); simp only [Act.put, List.setIfInBounds_toArray, List.set_cons_zero, List.set_cons_succ]))
          refine lex_nil ?_
          intro w2 bel2
          have p2 : Below w.heap.size w w2 := (by repeat' (first | with_reducible exact Below.refl _ _ | with_reducible assumption | with_reducible refine bel_drew ?_ | with_reducible refine bel_alloc ?_ _ | with_reducible refine bel_set ?_ ?_ _ | with_reducible refine bel_call ?_ (by assumption) | (dsimp only; omega) | (simp; done) | (simp; omega)))
          clear x0 rz bel2 CO' CR'
          go_wp2_with fail
          go_roundg (len - (i + 1))
          case measure => omega
          case rel => exact ⟨i + 1, hlt, rfl, (by first | rfl | simp), p2⟩
    · have hz2 : ¬ ((i : Int) < (len : Int)) := by omega
      go_wp2_with fail
      go_ret
      exact ⟨rfl, p⟩
end Go.Proofs.YtelofaceadlfmaaDoor
