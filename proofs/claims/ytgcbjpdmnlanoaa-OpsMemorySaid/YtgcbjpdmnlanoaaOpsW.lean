/- WALK: the same steps. PLAIN: n times turned round. -/
import Derived.Test.YtgcbjpdmnlanoaaOpsM
import Derived.Test.YtgcbjpdmnlanoaaOpsU
import Derived.Test.YtgcbjpdmnlanoaaSlice
namespace Go.Proofs.Ytgcbjpdmnlanoaa
open Go.RowKit
open Fl (nan key canon)
set_option maxRecDepth 100000 in
set_option maxHeartbeats 4000000 in
theorem osteps_any (a : Option Addr) (len cap rb ro : Nat) (f : Nat → Stp) (a2 : Option Addr) (cap2 rb2 ro2 : Nat) (w : World) (hln : len ≤ 9223372036854775807) (ha : 0 < len → a = some ⟨rb, ro, none⟩) (hr : 0 < len → Stps w rb ro len f)
    (ha2 : 0 < len → a2 = some ⟨rb2, ro2, none⟩) (hr2 : 0 < len → Stps w rb2 ro2 len f) :
    Calls Try.prog 27 #[.slice a len cap, .slice a2 len cap2] w fun e w' => e = .returned (.bool true) ∧ Below w.heap.size w w' := by
  have HR := Lib.hid hr
  have HR2 := Lib.hid hr2
  have HA := Lib.hid ha
  have HA2 := Lib.hid ha2
  have HL := Lib.hid hln
  have hE : ((len : Int) != (len : Int)) = false := by simp
  clear hr hr2 ha ha2 hln
  go_enter Try.func27, Try.ntmps27
  go_wp2_with fail
  go_loopg [5] len (fun g s5 wr => ∃ (i : Nat), i ≤ len ∧ g = len - i ∧ s5 = .int .i64 i ∧ Below w.heap.size w wr)
  case atStart => exact ⟨0, Nat.zero_le _, rfl, rfl, Below.refl _ _⟩
  case round =>
    obtain ⟨i, hi, rfl, rfl, p⟩ := hrel
    by_cases hlt : i < len
    · obtain rfl := HA.out (by omega)
      obtain rfl := HA2.out (by omega)
      have hz2 : (i : Int) < (len : Int) := by omega
      have hw1 : IntKind.i64.wrap ((i : Int) + 1) = (i : Int) + 1 := Go.IntWalk.i64_in _ (by have := HL.out; omega)
      obtain ⟨rz, x0, x1, x2⟩ := (HR.out (by omega)).cells hlt p
      obtain ⟨rz2, y0, y1, y2⟩ := (HR2.out (by omega)).cells hlt p
      clear HR HR2 HA HA2 HL
      generalize f i = o at *
      obtain ⟨ok, on, ox⟩ := o
      dsimp only at *
      have hE1 : (ok != ok) = false := by simp
      have hE2 : (on != on) = false := by simp
      have C1 := Lib.hid (fun w => rsame_any ox ox w)
      rw [decide_eq_true rfl] at C1
      go_wp2_with fail
      refine wp_region_below (by kernel_rfl) (by kernel_rfl) ?_
      iterate 38 (first | (refine lex_skip (by rfl) (fun _ _ _ _ h => h) ?_; simp only [Act.put, List.setIfInBounds_toArray, List.set_cons_zero, List.set_cons_succ]) | (refine lex_op (by rfl) ?_; apply Exists.intro; refine ⟨?_, ?_⟩; ((intro _ _ _ _ hT; obtain ⟨hc, hf⟩ := bcell hT; go_simp; first | exact rfl | exact call_same hT (C1.out _))); simp only [Act.put, List.setIfInBounds_toArray, List.set_cons_zero, List.set_cons_succ]))
      refine lex_nil ?_
      intro w2 bel2
      have p2 : Below w.heap.size w w2 := (by repeat' (first | with_reducible exact Below.refl _ _ | with_reducible assumption | with_reducible refine bel_drew ?_ | with_reducible refine bel_alloc ?_ _ | with_reducible refine bel_set ?_ ?_ _ | with_reducible refine bel_call ?_ (by assumption) | (dsimp only; omega) | (simp; done) | (simp; omega)))
      clear x0 x1 x2 y0 y1 y2 rz rz2 bel2 hE1 hE2
      go_wp2_with fail
      go_roundg (len - (i + 1))
      case measure => omega
      case rel => exact ⟨i + 1, hlt, rfl, (by first | rfl | simp), p2⟩
    · have hz2 : ¬ ((i : Int) < (len : Int)) := by omega
      go_wp2_with fail
      go_ret
      exact ⟨rfl, p⟩
end Go.Proofs.Ytgcbjpdmnlanoaa
