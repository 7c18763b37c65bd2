/- WALK of AggTexts. -/
import Derived.Test.YtelofaceadlfmaaDoorAggY
namespace Go.Proofs.YtelofaceadlfmaaDoor
open Go.RowKit Fl
set_option maxRecDepth 100000 in
set_option maxHeartbeats 4000000 in
theorem ltexts_any (k : Int) (a : Option Addr) (len cap rb ro : Nat) (f : Nat → V) (w : World) (ht : Tab w) (ht2 : Tab2 w) (hln : len ≤ 9223372036854775807) (ha : 0 < len → a = some ⟨rb, ro, none⟩) (hr : 0 < len → Vals w rb ro len f) :
    Calls Tryd.prog 5 #[.int .i64 k, .slice a len cap] w fun e w' => e = .returned (.bool true) ∧ Below w.heap.size w w' := by
  have C0 := Lib.hid (aawake_any w ht)
  have HR := Lib.hid hr
  have HA := Lib.hid ha
  have HL := Lib.hid hln
  have HT1 := Lib.hid ht
  have HT2 := Lib.hid ht2
  clear hr ha hln ht ht2
  go_enter Tryd.func5, Tryd.ntmps5
  go_wp2_with fail
  refine C0.out.mono ?_
  rintro e w1 ⟨rfl, hb⟩
  have p1 : Below w.heap.size w w1 := (by repeat' (first | with_reducible exact Below.refl _ _ | with_reducible assumption | with_reducible refine bel_drew ?_ | with_reducible refine bel_alloc ?_ _ | with_reducible refine bel_set ?_ ?_ _ | with_reducible refine bel_call ?_ (by assumption) | (dsimp only; omega) | (simp; done) | (simp; omega)))
  clear hb C0
  go_wp2_with fail
  go_loopg [5] len (fun g s5 wr => ∃ (i : Nat), i ≤ len ∧ g = len - i ∧ s5 = .int .i64 i ∧ Below w.heap.size w wr)
  case atStart => exact ⟨0, Nat.zero_le _, rfl, rfl, p1⟩
  case round =>
    clear p1
    obtain ⟨i, hi, rfl, rfl, p⟩ := hrel
    by_cases hlt : i < len
    · obtain rfl := HA.out (by omega)
      have hz2 : (i : Int) < (len : Int) := by omega
      have hw1 : IntKind.i64.wrap ((i : Int) + 1) = (i : Int) + 1 := Go.IntWalk.i64_in _ (by have := HL.out; omega)
      obtain ⟨rz, x0, x1⟩ := (HR.out (by omega)).cells hlt p
      have ox := (HR.out (by omega)).ok i hlt
      have C1 : Hid (∀ w2, Below wr.heap.size wr w2 → Calls Tryd.prog 18 #[.int .i64 k, .agg #[.bool (f i).has, .int .u64 (f i).bits]] w2 fun e w' => e = .returned (.string ⟨(txt k (f i)).toArray⟩) ∧ Below w2.heap.size w2 w') :=
        Lib.hid (fun w2 hb => text_any k (f i) w2 ox (HT1.out.below (bel_call p hb)) (HT2.out.below (bel_call p hb)))
      have C2 := Lib.hid (fun w => rtext_any k (f i) w ox)
      clear ox
      generalize txt k (f i) = T at *
      generalize f i = x at *
      obtain ⟨xh, xb⟩ := x
      dsimp only at *
      clear HR HA HL HT1 HT2
      go_wp2_with fail
      refine wp_region_below (by kernel_rfl) (by kernel_rfl) ?_
      iterate 13 (first | (refine lex_skip (by rfl) (fun _ _ _ _ h => h) ?_; simp only [Act.put, List.setIfInBounds_toArray, List.set_cons_zero, List.set_cons_succ]) | (refine lex_op (by rfl) ?_; apply Exists.intro; refine ⟨?_, ?_⟩; ((intro _ _ _ _ hT; obtain ⟨hc, hf⟩ := bcell hT; go_simp; first | exact rfl | (with_reducible exact call_below hT (C2.out _)) | (exact call_below hT (C1.out _ hT)))); simp only [Act.put, List.setIfInBounds_toArray, List.set_cons_zero, List.set_cons_succ]))
      refine lex_nil ?_
      intro w2 bel2
      have p2 : Below w.heap.size w w2 := (by repeat' (first | with_reducible exact Below.refl _ _ | with_reducible assumption | with_reducible refine bel_drew ?_ | with_reducible refine bel_alloc ?_ _ | with_reducible refine bel_set ?_ ?_ _ | with_reducible refine bel_call ?_ (by assumption) | (dsimp only; omega) | (simp; done) | (simp; omega)))
      clear x0 x1 rz bel2 C1 C2
      go_wp2_with fail
      go_roundg (len - (i + 1))
      case measure => omega
      case rel => exact ⟨i + 1, hlt, rfl, (by first | rfl | simp), p2⟩
    · have hz2 : ¬ ((i : Int) < (len : Int)) := by omega
      go_wp2_with fail
      go_ret
      exact ⟨rfl, p⟩
end Go.Proofs.YtelofaceadlfmaaDoor
