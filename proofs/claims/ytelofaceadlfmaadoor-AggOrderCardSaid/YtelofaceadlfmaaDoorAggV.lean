/- WALKS: gathered; AggOrder. -/
import Derived.Test.YtelofaceadlfmaaDoorAggU
import Derived.Test.YtelofaceadlfmaaDoorAggS
import Derived.Test.YtelofaceadlfmaaDoorSetC
import Derived.Test.YtelofaceadlfmaaDoorLaw01Two
namespace Go.Proofs.YtelofaceadlfmaaDoor
open Go.RowKit Fl
theorem Fls.cells {w w' : World} {b o len : Nat} {f : Nat → Nat} (h : Fls w b o len f) {i : Nat} (hi : i < len) (p : Below w.heap.size w w') : b < w'.heap.size ∧ w'.cell? ⟨b, o + i, none⟩ = some (.float .f64 (f i)) :=
  ⟨Nat.lt_of_lt_of_le h.lt p.size, (p.cell (p := ⟨b, o + i, none⟩) h.lt).trans (h.c0 i hi)⟩
theorem Fls.keep {w w' : World} {b o len : Nat} {f : Nat → Nat} (h : Fls w b o len f) {n : Nat} (hb : Below n w w') (hn : b < n) : Fls w' b o len f :=
  ⟨Nat.lt_of_lt_of_le h.lt hb.size, h.ok, fun i hi => (hb.cell (p := ⟨b, o + i, none⟩) hn).trans (h.c0 i hi)⟩
theorem Fls.drop {w : World} {b o len : Nat} {f : Nat → Nat} (h : Fls w b o len f) {k : Nat} (hk : k ≤ len) : Fls w b (o + k) (len - k) (fun i => f (k + i)) :=
  ⟨h.lt, fun i hi => h.ok (k + i) (by omega), fun i hi => by rw [Nat.add_assoc]; exact h.c0 (k + i) (by omega)⟩
theorem Fls.take {w : World} {b o len : Nat} {f : Nat → Nat} (h : Fls w b o len f) {k : Nat} (hk : k ≤ len) : Fls w b o k f :=
  ⟨h.lt, fun i hi => h.ok i (by omega), fun i hi => h.c0 i (by omega)⟩
set_option maxRecDepth 100000 in
set_option maxHeartbeats 4000000 in
theorem gathered_any (k : Int) (a : Option Addr) (len cap rb ro : Nat) (f : Nat → Nat) (w : World) (hln : len ≤ 9223372036854775807) (ha : 0 < len → a = some ⟨rb, ro, none⟩) (hr : 0 < len → Fls w rb ro len f) :
    Calls Tryd.prog 20 #[.int .i64 k, .slice a len cap] w fun e w' => e = .returned (.agg #[.bool (gath k f 0 len).has, .int .u64 (gath k f 0 len).bits]) ∧ Below w.heap.size w w' := by
  have HR := Lib.hid hr
  have HA := Lib.hid ha
  have HL := Lib.hid hln
  clear hr ha hln
  go_enter Tryd.func20, Tryd.ntmps20
  go_wp2_with fail
  go_loopg [6] len (fun g s6 wr => ∃ (i : Nat), i ≤ len ∧ g = len - i ∧ s6 = .int .i64 i ∧ Below w.heap.size w wr ∧ Blk wr w.heap.size [.bool false, .int .u64 0] 27 ∧ Blk wr (w.heap.size + 1) [.bool (gath k f 0 i).has, .int .u64 (gath k f 0 i).bits] 27)
  case atStart => exact ⟨0, Nat.zero_le _, rfl, rfl, (by repeat' (first | with_reducible exact Below.refl _ _ | with_reducible assumption | with_reducible refine bel_drew ?_ | with_reducible refine bel_alloc ?_ _ | with_reducible refine bel_set ?_ ?_ _ | with_reducible refine bel_call ?_ (by assumption) | (dsimp only; omega) | (simp; done) | (simp; omega))), (by repeat' (first | with_reducible assumption | (show (_ : List Value) = _; rfl) | with_reducible exact Blk.new _ _ rfl | (with_reducible refine Blk.new _ _ ?_; simp; done) | with_reducible apply Blk.set_eq | with_reducible apply Blk.other | with_reducible apply Blk.alloc | with_reducible apply Blk.drew | (simp; done) | (simp; omega))), (show Blk _ _ [.bool false, .int .u64 0] _ from (by repeat' (first | with_reducible assumption | (show (_ : List Value) = _; rfl) | with_reducible exact Blk.new _ _ rfl | (with_reducible refine Blk.new _ _ ?_; simp; done) | with_reducible apply Blk.set_eq | with_reducible apply Blk.other | with_reducible apply Blk.alloc | with_reducible apply Blk.drew | (simp; done) | (simp; omega))))⟩
  case round =>
    obtain ⟨i, hi, rfl, rfl, p, q, r⟩ := hrel
    by_cases hlt : i < len
    · obtain rfl := HA.out (by omega)
      have hz2 : (i : Int) < (len : Int) := by omega
      have hw1 : IntKind.i64.wrap ((i : Int) + 1) = (i : Int) + 1 := Go.IntWalk.i64_in _ (by have := HL.out; omega)
      obtain ⟨rz, x0⟩ := (HR.out (by omega)).cells hlt (Below.refl _ w)
      have ofx := (HR.out (by omega)).ok i hlt
      have og : (gath k f 0 i).ok := gath_ok fun j hj => by rw [Nat.zero_add]; exact (HR.out (by omega)).ok j (by omega)
      have C1 := Lib.hid (fun w => aof_any k (f i) w ofx)
      have C2 := Lib.hid (fun w => merge_any k (gath k f 0 i) (ofV k (f i)) w og (ofV_ok ofx))
      have hG : Hid (gath k f 0 (i + 1) = merge k (gath k f 0 i) (ofV k (f i))) := Lib.hid (by show merge k _ (ofV k (f (0 + i))) = _; rw [Nat.zero_add])
      generalize merge k (gath k f 0 i) (ofV k (f i)) = m at *
      generalize ofV k (f i) = o at *
      generalize gath k f 0 i = gi at *
      generalize f i = x at *
      clear ofx og
      have le1 : w.heap.size ≤ w.heap.size + 1 := by omega
      have ne1 : w.heap.size ≠ w.heap.size + 1 := by omega
      go_wp2_with fail
      refine wp_region_cls (SetC _ _ (w.heap.size + 1) 9 [.bool m.has, .int .u64 m.bits] [.bool gi.has, .int .u64 gi.bits] 27) (by kernel_rfl) (by kernel_rfl) (SetC.begin _ (by decide) p r) ?_
      refine lex_op (by rfl) ?_; apply Exists.intro; refine ⟨?_, ?_⟩; ((intro L w' hL hcl hT; have hT' := hT.upd (k := 0) (by decide); obtain ⟨hc, hf⟩ := bcell hT.bel; clear hT hcl hL; go_simp; exact rfl)); simp only [Act.put, List.setIfInBounds_toArray, List.set_cons_zero, List.set_cons_succ]
      refine lex_op (by rfl) ?_; apply Exists.intro; refine ⟨?_, ?_⟩; ((intro L w' hL hcl hT; have hT' := hT.upd (k := 1) (by decide); have hs8 := hcl.no (j := 8) (i := 1) rfl (by kernel_rfl) hL; have hs9 := hcl.no (j := 9) (i := 8) rfl (by kernel_rfl) hs8; have hB := hT.blk; rw [hs9, if_neg (by decide)] at hB; have zc0 := hB.cell 0; have zc1 := hB.cell 1; simp only [List.getElem?_cons_zero, List.getElem?_cons_succ] at zc0 zc1; clear hT hcl hL hs8 hs9 hB; go_simp; exact rfl)); simp only [Act.put, List.setIfInBounds_toArray, List.set_cons_zero, List.set_cons_succ]
      refine lex_op (by rfl) ?_; apply Exists.intro; refine ⟨?_, ?_⟩; ((intro L w' hL hcl hT; have hT' := hT.upd (k := 2) (by decide); obtain ⟨hc, hf⟩ := bcell hT.bel; clear hT hcl hL; go_simp; exact rfl)); simp only [Act.put, List.setIfInBounds_toArray, List.set_cons_zero, List.set_cons_succ]
      refine lex_op (by rfl) ?_; apply Exists.intro; refine ⟨?_, ?_⟩; ((intro L w' hL hcl hT; have hT' := hT.upd (k := 3) (by decide); obtain ⟨hc, hf⟩ := bcell hT.bel; clear hT hcl hL; go_simp; exact rfl)); simp only [Act.put, List.setIfInBounds_toArray, List.set_cons_zero, List.set_cons_succ]
      refine lex_op (by rfl) ?_; apply Exists.intro; refine ⟨?_, ?_⟩; ((intro L w' hL hcl hT; have hT' := hT.upd (k := 4) (by decide); obtain ⟨hc, hf⟩ := bcell hT.bel; clear hT hcl hL; go_simp; exact rfl)); simp only [Act.put, List.setIfInBounds_toArray, List.set_cons_zero, List.set_cons_succ]
      refine lex_op (by rfl) ?_; apply Exists.intro; refine ⟨?_, ?_⟩; ((intro L w' hL hcl hT; have hT' := hT.upd (k := 5) (by decide); obtain ⟨hc, hf⟩ := bcell hT.bel; clear hT hcl hL; go_simp; exact rfl)); simp only [Act.put, List.setIfInBounds_toArray, List.set_cons_zero, List.set_cons_succ]
      refine lex_op (by rfl) ?_; apply Exists.intro; refine ⟨?_, ?_⟩; ((intro L w' hL hcl hT; have hT' := hT.upd (k := 6) (by decide); obtain ⟨hc, hf⟩ := bcell hT.bel; clear hT hcl hL; go_simp; exact rfl)); simp only [Act.put, List.setIfInBounds_toArray, List.set_cons_zero, List.set_cons_succ]
      refine lex_op (by rfl) ?_; apply Exists.intro; refine ⟨?_, ?_⟩; ((intro L w' hL hcl hT; have hT' := hT.upd (k := 7) (by decide); obtain ⟨hc, hf⟩ := bcell hT.bel; clear hT hcl hL; go_simp; first | exact rfl | exact (C1.out _).mono fun e w'' ⟨he, hb⟩ => ⟨he, hT'.next hb⟩)); simp only [Act.put, List.setIfInBounds_toArray, List.set_cons_zero, List.set_cons_succ]
      refine lex_op (by rfl) ?_; apply Exists.intro; refine ⟨?_, ?_⟩; ((intro L w' hL hcl hT; have hT' := hT.upd (k := 8) (by decide); obtain ⟨hc, hf⟩ := bcell hT.bel; clear hT hcl hL; go_simp; first | exact rfl | exact (C2.out _).mono fun e w'' ⟨he, hb⟩ => ⟨he, hT'.next hb⟩)); simp only [Act.put, List.setIfInBounds_toArray, List.set_cons_zero, List.set_cons_succ]
      refine lex_op (by rfl) ?_; apply Exists.intro; refine ⟨?_, ?_⟩; ((intro L w' hL hcl hT; have hT' := hT.store hL le1 rfl; have hB := hT.blk; rw [hL, if_neg (by decide)] at hB; have zc0 := hB.cell 0; have zf0 := hB.free 0; have zc1 := hB.cell 1; have zf1 := hB.free 1; simp only [List.getElem?_cons_zero, List.getElem?_cons_succ] at zc0 zc1; clear hT hcl hL; go_simp; first | exact ⟨hT', rfl⟩ | exact hT')); simp only [Act.put]
      refine lex_nil ?_
      intro w5 hT
      have p5 := hT.bel
      have r5 := hT.blk
      rw [if_pos rfl] at r5
      have q5 := hT.oth _ _ _ ne1 q
      clear hT p q r
      go_wp2_with fail
      go_roundg (len - (i + 1))
      case measure => omega
      case rel => exact ⟨i + 1, hlt, rfl, (by first | rfl | simp), p5, q5, by rw [hG.out]; exact r5⟩
    · obtain rfl : i = len := by omega
      have hz2 : ¬ ((i : Int) < (i : Int)) := by omega
      obtain ⟨gi, hgi⟩ : ∃ gi, gath k f 0 i = gi := ⟨_, rfl⟩
      rw [hgi] at r
      have HG := Lib.hid hgi
      clear hgi
      have qc0 : wr.cell? ⟨w.heap.size, 0, none⟩ = some (.bool false) := q.cell 0; have qc1 : wr.cell? ⟨w.heap.size, 1, none⟩ = some (.int .u64 0) := q.cell 1; have qz := q.lt
      have rc0 : wr.cell? ⟨(w.heap.size + 1), 0, none⟩ = some (.bool gi.has) := r.cell 0; have rc1 : wr.cell? ⟨(w.heap.size + 1), 1, none⟩ = some (.int .u64 gi.bits) := r.cell 1; have rz := r.lt
      have f0 := q.free 0
      have f1 := q.free 1
      go_wp2_with fail
      refine ret_cell [.bool gi.has, .int .u64 gi.bits] Tryd.results20 rfl (Tryd.isAgg27 _) (Tryd.sizeOf27 _) (t := 27) (by repeat' (first | with_reducible assumption | (show (_ : List Value) = _; rfl) | with_reducible exact Blk.new _ _ rfl | (with_reducible refine Blk.new _ _ ?_; simp; done) | with_reducible apply Blk.set_eq | with_reducible apply Blk.other | with_reducible apply Blk.alloc | with_reducible apply Blk.drew | (simp; done) | (simp; omega))) rfl ?_
      rw [HG.out]
      exact ⟨rfl, (by repeat' (first | with_reducible exact Below.refl _ _ | with_reducible assumption | with_reducible refine bel_drew ?_ | with_reducible refine bel_alloc ?_ _ | with_reducible refine bel_set ?_ ?_ _ | with_reducible refine bel_call ?_ (by assumption) | (dsimp only; omega) | (simp; done) | (simp; omega)))⟩
end Go.Proofs.YtelofaceadlfmaaDoor
