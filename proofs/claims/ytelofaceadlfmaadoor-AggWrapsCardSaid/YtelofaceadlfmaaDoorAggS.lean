/- WALK of AggMerge. -/
import Derived.Test.YtelofaceadlfmaaDoorAggQ
import Derived.Test.YtelofaceadlfmaaDoorOpenSl
namespace Go.Proofs.YtelofaceadlfmaaDoor
open Go.RowKit Fl
theorem wp_forget {P : Program} {c : Code} {Q : Exit → Act → World → Prop} {a : Act} {W : World} {X : World → Prop} (h : X W) (k : ∀ W', X W' → c.wp P Q a W') : c.wp P Q a W := k W h
theorem Vals.cells {w w' : World} {b o len : Nat} {f : Nat → V} (h : Vals w b o len f) {i : Nat} (hi : i < len) (p : Below w.heap.size w w') :
    b < w'.heap.size ∧ w'.cell? ⟨b, o + i * 2, none⟩ = some (.bool (f i).has) ∧ w'.cell? ⟨b, o + i * 2 + 1, none⟩ = some (.int .u64 (f i).bits) :=
  ⟨Nat.lt_of_lt_of_le h.lt p.size, (p.cell (p := ⟨b, o + (i * 2 + 0), none⟩) h.lt).trans (h.has i hi), (p.cell (p := ⟨b, o + (i * 2 + 1), none⟩) h.lt).trans (h.bits i hi)⟩
set_option maxRecDepth 100000 in
set_option maxHeartbeats 4000000 in
theorem lmerge_any (k : Int) (a : Option Addr) (len cap rb ro : Nat) (f : Nat → V) (w : World) (ht : Tab w) (hln : len ≤ 9223372036854775807) (ha : 0 < len → a = some ⟨rb, ro, none⟩) (hr : 0 < len → Vals w rb ro len f) :
    Calls Tryd.prog 4 #[.int .i64 k, .slice a len cap] w fun e w' => e = .returned (.bool true) ∧ Below w.heap.size w w' := by
  have C0 := Lib.hid (aawake_any w ht)
  have HR := Lib.hid hr
  have HA := Lib.hid ha
  have HL := Lib.hid hln
  clear hr ha hln ht
  go_enter Tryd.func4, Tryd.ntmps4
  go_wp2_with fail
  refine C0.out.mono ?_
  rintro e w1 ⟨rfl, hb⟩
  have p1 : Below w.heap.size w w1 := (by repeat' (first | with_reducible exact Below.refl _ _ | with_reducible assumption | with_reducible refine bel_drew ?_ | with_reducible refine bel_alloc ?_ _ | with_reducible refine bel_set ?_ ?_ _ | with_reducible refine bel_call ?_ (by assumption) | (dsimp only; omega) | (simp; done) | (simp; omega)))
  clear hb C0
  go_wp2_with fail
  go_loopg [5] len (fun g s5 wr => ∃ (i : Nat), i ≤ len ∧ g = len - i ∧ s5 = .int .i64 i ∧ Below w.heap.size w wr)
  case atStart => exact ⟨0, Nat.zero_le _, rfl, rfl, p1⟩
  case round =>
    clear p1
    obtain ⟨i, hi, rfl, rfl, p⟩ := hrel
    by_cases hlt : i < len
    · obtain rfl := HA.out (by omega)
      have hz2 : (i : Int) < (len : Int) := by omega
      have hz1 : (i : Int) + 1 ≤ 9223372036854775807 := by have := HL.out; omega
      have hz0 : (0 : Int) < (len : Int) := by omega
      obtain ⟨j, hj, hjl⟩ : ∃ j : Nat, ((i : Int) + 1) % (len : Int) = (j : Int) ∧ j < len :=
        ⟨(i + 1) % len, by simp, Nat.mod_lt _ (by omega)⟩
      have hz3 : (j : Int) < (len : Int) := by omega
      obtain ⟨rz, x0, x1⟩ := (HR.out (by omega)).cells hlt p
      obtain ⟨_, y0, y1⟩ := (HR.out (by omega)).cells hjl p
      have ox := (HR.out (by omega)).ok i hlt
      have oy := (HR.out (by omega)).ok j hjl
      have C1 := Lib.hid (fun w => fit_any k (f i) w ox)
      have C2 := Lib.hid (fun w => rfit_any k (f i) w ox)
      have C3 := Lib.hid (fun w => merge_any k (f i) (f j) w ox oy)
      have C4 := Lib.hid (fun w => rmerge_any k (f i) (f j) w ox oy)
      clear ox oy
      generalize fit k (f i) = fv at *
      generalize merge k (f i) (f j) = mv at *
      generalize f i = x at *
      generalize f j = y at *
      obtain ⟨xh, xb⟩ := x
      obtain ⟨yh, yb⟩ := y
      dsimp only at *
      go_wp2_with fail
      refine wp_forget (X := fun W => Below w.heap.size w W ∧ Blk W wr.heap.size [.bool xh, .int .u64 xb] 27 ∧ Blk W (wr.heap.size + 1) [.bool yh, .int .u64 yb] 27) ⟨(by repeat' (first | with_reducible exact Below.refl _ _ | with_reducible assumption | with_reducible refine bel_drew ?_ | with_reducible refine bel_alloc ?_ _ | with_reducible refine bel_set ?_ ?_ _ | with_reducible refine bel_call ?_ (by assumption) | (dsimp only; omega) | (simp; done) | (simp; omega))), (by repeat' (first | with_reducible assumption | (show (_ : List Value) = _; rfl) | with_reducible exact Blk.new _ _ rfl | (with_reducible refine Blk.new _ _ ?_; simp; done) | with_reducible apply Blk.set_eq | with_reducible apply Blk.other | with_reducible apply Blk.alloc | with_reducible apply Blk.drew | (simp; done) | (simp; omega))), (by repeat' (first | with_reducible assumption | (show (_ : List Value) = _; rfl) | with_reducible exact Blk.new _ _ rfl | (with_reducible refine Blk.new _ _ ?_; simp; done) | with_reducible apply Blk.set_eq | with_reducible apply Blk.other | with_reducible apply Blk.alloc | with_reducible apply Blk.drew | (simp; done) | (simp; omega)))⟩ ?_
      clear x0 x1 y0 y1 rz
      rintro w2 ⟨p2, q2, r2⟩
      have q2c0 : w2.cell? ⟨wr.heap.size, 0, none⟩ = some (.bool xh) := q2.cell 0; have q2c1 : w2.cell? ⟨wr.heap.size, 1, none⟩ = some (.int .u64 xb) := q2.cell 1; have q2z := q2.lt
      have r2c0 : w2.cell? ⟨(wr.heap.size + 1), 0, none⟩ = some (.bool yh) := r2.cell 0; have r2c1 : w2.cell? ⟨(wr.heap.size + 1), 1, none⟩ = some (.int .u64 yb) := r2.cell 1; have r2z := r2.lt
      clear p q2 r2 hj
      refine wp_region_below (by kernel_rfl) (by kernel_rfl) ?_
      iterate 18 (first | (refine lex_skip (by rfl) (fun _ _ _ _ h => h) ?_; simp only [Act.put, List.setIfInBounds_toArray, List.set_cons_zero, List.set_cons_succ]) | (refine lex_op (by rfl) ?_; apply Exists.intro; refine ⟨?_, ?_⟩; ((intro _ _ _ _ hT; obtain ⟨hc, hf⟩ := bcell hT; go_simp; first | exact rfl | (with_reducible exact call_below hT (C1.out _)) | (with_reducible exact call_below hT (C2.out _)) | (with_reducible exact call_below hT (C3.out _)) | (with_reducible exact call_below hT (C4.out _)))); simp only [Act.put, List.setIfInBounds_toArray, List.set_cons_zero, List.set_cons_succ]))
      refine lex_nil ?_
      intro w3 bel3
      have p3 : Below w.heap.size w w3 := (by repeat' (first | with_reducible exact Below.refl _ _ | with_reducible assumption | with_reducible refine bel_drew ?_ | with_reducible refine bel_alloc ?_ _ | with_reducible refine bel_set ?_ ?_ _ | with_reducible refine bel_call ?_ (by assumption) | (dsimp only; omega) | (simp; done) | (simp; omega)))
      clear q2c0 q2c1 r2c0 r2c1 q2z r2z bel3 C1 C2 C3 C4 p2
      have hw1 : IntKind.i64.wrap ((i : Int) + 1) = (i : Int) + 1 := Go.IntWalk.i64_in _ (by omega)
      go_wp2_with fail
      go_roundg (len - (i + 1))
      case measure => omega
      case rel => exact ⟨i + 1, hlt, rfl, (by first | rfl | simp), p3⟩
    · have hz2 : ¬ ((i : Int) < (len : Int)) := by omega
      go_wp2_with fail
      go_ret
      exact ⟨rfl, p⟩
end Go.Proofs.YtelofaceadlfmaaDoor
