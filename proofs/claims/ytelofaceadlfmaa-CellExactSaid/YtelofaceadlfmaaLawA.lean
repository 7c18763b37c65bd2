/- WALKS of the statements' own helpers: some, laid, awake. -/
import Derived.Test.YtelofaceadlfmaaRefD
import Derived.Test.YtelofaceadlfmaaRegionG
namespace Go.Proofs.Ytelofaceadlfmaa
open Go.RowKit
open Fl (known fit merge V Cl applyC applyE revertC resolveC emptyC fitC)

set_option maxHeartbeats 400000 in
theorem lsome_any (b : Int) (w : World) :
    Calls Try.prog 21 #[.int .u64 b] w fun e w' => e = .returned (.agg #[.bool true, .int .u64 b]) ∧ Below w.heap.size w w' := by
  go_enter Try.func21, Try.ntmps21
  go_wp2
  refine bodyPost_ret (v := .agg #[.bool true, .int .u64 b]) (by simp only [results, Try.results21]; go_simp) rfl ?_
  exact ⟨rfl, (by repeat' (first | with_reducible exact Below.refl _ _ | with_reducible assumption | with_reducible refine bel_drew ?_ | with_reducible refine bel_alloc ?_ _ | with_reducible refine bel_set ?_ ?_ _ | with_reducible refine bel_call ?_ (by assumption) | (dsimp only; omega) | (simp; done) | (simp; omega)))⟩

set_option maxHeartbeats 400000 in
theorem laid_any (p c n : Int) (w : World) :
    Calls Try.prog 23 #[.int .u64 p, .int .u64 c, .int .i64 n] w
      fun e w' => e = .returned (.agg #[.int .u64 7, .bool true, .int .u64 p, .bool true, .int .u64 c, .int .i64 n]) ∧ Below w.heap.size w w' := by
  have C1 := Lib.hid lsome_any
  go_enter Try.func23, Try.ntmps23
  go_wp2_with fail
  refine (C1.out _ _).mono ?_
  rintro e w1 ⟨rfl, hb1⟩
  go_wp2_with fail
  refine (C1.out _ _).mono ?_
  rintro e w2 ⟨rfl, hb2⟩
  have q : Blk w2 (w.heap.size) [.int .u64 0, .bool false, .int .u64 0, .bool false, .int .u64 0, .int .i64 0] 26 := ((Blk.new _ _ rfl).below hb1).below hb2; have qc0 : w2.cell? ⟨w.heap.size, 0, none⟩ = some (.int .u64 0) := q.cell 0; have qc1 : w2.cell? ⟨w.heap.size, 1, none⟩ = some (.bool false) := q.cell 1; have qc2 : w2.cell? ⟨w.heap.size, 2, none⟩ = some (.int .u64 0) := q.cell 2; have qc3 : w2.cell? ⟨w.heap.size, 3, none⟩ = some (.bool false) := q.cell 3; have qc4 : w2.cell? ⟨w.heap.size, 4, none⟩ = some (.int .u64 0) := q.cell 4; have qc5 : w2.cell? ⟨w.heap.size, 5, none⟩ = some (.int .i64 0) := q.cell 5; have qf0 : w2.frozen? ⟨w.heap.size, 0, none⟩ = false := q.free 0; have qf1 : w2.frozen? ⟨w.heap.size, 1, none⟩ = false := q.free 1; have qf2 : w2.frozen? ⟨w.heap.size, 2, none⟩ = false := q.free 2; have qf3 : w2.frozen? ⟨w.heap.size, 3, none⟩ = false := q.free 3; have qf4 : w2.frozen? ⟨w.heap.size, 4, none⟩ = false := q.free 4; have qf5 : w2.frozen? ⟨w.heap.size, 5, none⟩ = false := q.free 5; have qz := q.lt
  have Q := Lib.hid q
  clear q
  go_wp2_with fail
  have q := Q.out
  refine ret_cell [.int .u64 7, .bool true, .int .u64 p, .bool true, .int .u64 c, .int .i64 n] Try.results23 rfl (Try.isAgg26 _) (Try.sizeOf26 _) (t := 26) (by repeat' (first | with_reducible assumption | (show (_ : List Value) = _; rfl) | with_reducible exact Blk.new _ _ rfl | (with_reducible refine Blk.new _ _ ?_; simp; done) | with_reducible apply Blk.set_eq | with_reducible apply Blk.other | with_reducible apply Blk.alloc | (simp; done) | (simp; omega))) rfl ?_
  exact ⟨rfl, (by repeat' (first | with_reducible exact Below.refl _ _ | with_reducible assumption | with_reducible refine bel_drew ?_ | with_reducible refine bel_alloc ?_ _ | with_reducible refine bel_set ?_ ?_ _ | with_reducible refine bel_call ?_ (by assumption) | (dsimp only; omega) | (simp; done) | (simp; omega)))⟩

def k0 : Cl := ⟨7, .none, .none, 0⟩
def k1 : Cl := ⟨7, .none, ⟨true, 3⟩, 1⟩
def k2 : Cl := ⟨7, ⟨true, 3⟩, ⟨true, 5⟩, 4⟩
def k3 : Cl := ⟨7, ⟨true, 3⟩, ⟨true, 3⟩, 3⟩
theorem ap1 : applyC 1 k0 1 ⟨true, 3⟩ = k1 ∧ applyE 1 k0 1 = 0 := by decide
theorem ap2 : applyC 1 k1 4 ⟨true, 2⟩ = k2 ∧ applyE 1 k1 4 = 0 := by decide
theorem ap3 : applyC 1 k2 3 ⟨true, 2⟩ = Cl.zero ∧ applyE 1 k2 3 = 100 := by decide
theorem ap4 : revertC k2 4 = k3 := by decide
theorem ap5 : resolveC k2 4 = ⟨true, 5⟩ ∧ resolveC k2 3 = ⟨true, 3⟩ := by decide
theorem ap6 : emptyC ⟨0, .none, .none, 5⟩ = true := by decide
theorem ap7 : fitC 1 k2 = true := by decide
theorem ok3 : (V.mk true 3).ok := by unfold V.ok; decide
theorem ok2 : (V.mk true 2).ok := by unfold V.ok; decide
theorem ok5 : (V.mk true 5).ok := by unfold V.ok; decide

set_option maxHeartbeats 1000000 in
theorem awake_any (w : World) : Calls Try.prog 8 #[] w fun e w' => e = .returned (.bool true) ∧ Below w.heap.size w w' := by
  have a1 := fun w => apply_any 1 k0 1 ⟨true, 3⟩ w ⟨Fl.none_ok, Fl.none_ok⟩ ok3
  have a2 := fun w => apply_any 1 k1 4 ⟨true, 2⟩ w ⟨Fl.none_ok, ok3⟩ ok2
  have a3 := fun w => apply_any 1 k2 3 ⟨true, 2⟩ w ⟨ok3, ok5⟩ ok2
  have a4 := fun w => revert_any k2 4 w (by decide)
  have a5 := fun w => resolve_any k2 4 w
  have a6 := fun w => resolve_any k2 3 w
  have a7 := fun w => empty_any ⟨0, .none, .none, 5⟩ w
  have a8 := fun w => cfit_any 1 k2 w ⟨ok3, ok5⟩
  simp only [ap1, ap2, ap3, ap4, ap5, ap6, ap7] at a1 a2 a3 a4 a5 a6 a7 a8
  simp only [k0, k1, k2, k3, Cl.zero, V.none, Int.cast_ofNat_Int] at a1 a2 a3 a4 a5 a6 a7 a8
  have A1 := Lib.hid a1
  have A2 := Lib.hid a2
  have A3 := Lib.hid a3
  have A4 := Lib.hid a4
  have A5 := Lib.hid a5
  have A6 := Lib.hid a6
  have A7 := Lib.hid a7
  have A8 := Lib.hid a8
  have B1 := Lib.hid lsome_any
  have B2 := Lib.hid laid_any
  clear a1 a2 a3 a4 a5 a6 a7 a8
  go_enter Try.func8, Try.ntmps8
  go_wp2_with fail
  refine (B1.out _ _).mono ?_
  rintro e w1 ⟨rfl, hb1⟩
  go_wp2_with fail
  refine (A1.out _).mono ?_
  rintro e w2 ⟨rfl, hb2⟩
  go_wp2_with fail
  have z2 : w.heap.size ≤ w2.heap.size := (bel_call hb1 hb2).size
  have p2 : Below w.heap.size w w2 := (by repeat' (first | with_reducible exact Below.refl _ _ | with_reducible assumption | with_reducible refine bel_drew ?_ | with_reducible refine bel_alloc ?_ _ | with_reducible refine bel_set ?_ ?_ _ | with_reducible refine bel_call ?_ (by assumption) | (dsimp only; omega) | (simp; done) | (simp; omega)))
  clear hb1 hb2 A1
  refine wp_region_ghost (NewC _ 6 7 [.int .u64 7, .bool true, .int .u64 3, .bool true, .int .u64 5, .int .i64 4] [.int .u64 0, .bool false, .int .u64 0, .bool false, .int .u64 0, .int .i64 0] 26) (by kernel_rfl) (by kernel_rfl) NewC.loc (.begin (Below.refl _ _).drew rfl) ?_
  refine lexg_val (fun _ => by rfl) ?_; apply Exists.intro; refine ⟨?_, ?_⟩; ((intro g L w' hU hT; have hT' := hT.upd (i := 0) (by decide) (by decide); obtain ⟨hc, hf⟩ := bcell hT.bel; clear hT hU; go_simp; exact rfl)); simp only [Act.put, List.setIfInBounds_toArray, List.set_cons_zero, List.set_cons_succ]
  refine lexg_val (fun _ => by rfl) ?_; apply Exists.intro; refine ⟨?_, ?_⟩; ((intro g L w' hU hT; have hT' := hT.upd (i := 1) (by decide) (by decide); obtain ⟨hc, hf⟩ := bcell hT.bel; clear hT hU; go_simp; first | exact rfl | exact (B1.out _ _).mono fun e w'' ⟨he, hb⟩ => ⟨he, hT'.next hb⟩)); simp only [Act.put, List.setIfInBounds_toArray, List.set_cons_zero, List.set_cons_succ]
  refine lexg_val (fun _ => by rfl) ?_; apply Exists.intro; refine ⟨?_, ?_⟩; ((intro g L w' hU hT; have hT' := hT.upd (i := 2) (by decide) (by decide); obtain ⟨hc, hf⟩ := bcell hT.bel; clear hT hU; go_simp; first | exact rfl | exact (A2.out _).mono fun e w'' ⟨he, hb⟩ => ⟨he, hT'.next hb⟩)); simp only [Act.put, List.setIfInBounds_toArray, List.set_cons_zero, List.set_cons_succ]
  refine lexg_val (fun _ => by rfl) ?_; apply Exists.intro; refine ⟨?_, ?_⟩; ((intro g L w' hU hT; have hT' := hT.upd (i := 3) (by decide) (by decide); obtain ⟨hc, hf⟩ := bcell hT.bel; clear hT hU; go_simp; exact rfl)); simp only [Act.put, List.setIfInBounds_toArray, List.set_cons_zero, List.set_cons_succ]
  refine lexg_val (fun _ => by rfl) ?_; apply Exists.intro; refine ⟨?_, ?_⟩; ((intro g L w' hU hT; have hT' := hT.upd (i := 4) (by decide) (by decide); obtain ⟨hc, hf⟩ := bcell hT.bel; clear hT hU; go_simp; exact rfl)); simp only [Act.put, List.setIfInBounds_toArray, List.set_cons_zero, List.set_cons_succ]
  refine lexg_val (fun _ => by rfl) ?_; apply Exists.intro; refine ⟨?_, ?_⟩; ((intro g L w' hU hT; have hT' := hT.upd (i := 5) (by decide) (by decide); obtain ⟨hc, hf⟩ := bcell hT.bel; clear hT hU; go_simp; exact rfl)); simp only [Act.put, List.setIfInBounds_toArray, List.set_cons_zero, List.set_cons_succ]
  refine lexg_alloc (fun b => .pointer (some ⟨b, 0, none⟩)) (fun _ => by rfl) ?_ ?_; ((intro g L w' hU hT; refine ⟨w'.heap.size, _, ?_, hT.alloc (hU.closed.no (j := 7) rfl (by kernel_rfl) hU.not) (by decide)⟩; clear hT hU; go_simp)); simp only [Nat.reduceAdd]; simp only [Act.put, List.setIfInBounds_toArray, List.set_cons_zero, List.set_cons_succ]
  refine lexg_op (fun _ => by rfl) ?_; refine ⟨fun _ => undef, ?_, known_const _ _, ?_⟩; ((intro g L w' hU hT; have hK : L 6 = true := hU.yes (m := 6) rfl (by kernel_rfl); have hL := hU.not; have hT' := hT.store hK hL rfl; have hB := (hT.blk hK).2; rw [hL, if_neg (by decide)] at hB; have zc0 := hB.cell 0; have zf0 := hB.free 0; have zc1 := hB.cell 1; have zf1 := hB.free 1; have zc2 := hB.cell 2; have zf2 := hB.free 2; have zc3 := hB.cell 3; have zf3 := hB.free 3; have zc4 := hB.cell 4; have zf4 := hB.free 4; have zc5 := hB.cell 5; have zf5 := hB.free 5; simp only [List.getElem?_cons_zero, List.getElem?_cons_succ] at zc0 zc1 zc2 zc3 zc4 zc5; clear hT hU hK; go_simp; first | exact hT' | exact ⟨hT', rfl⟩)); simp only [Act.put]
  refine lexg_val (fun _ => by rfl) ?_; apply Exists.intro; refine ⟨?_, ?_⟩; ((intro g L w' hU hT; have hT' := hT.upd (i := 8) (by decide) (by decide); obtain ⟨hc, hf⟩ := bcell hT.bel; clear hT hU; go_simp; exact rfl)); simp only [Act.put, List.setIfInBounds_toArray, List.set_cons_zero, List.set_cons_succ]
  refine lexg_nil ?_; intro g w3 hT; have bel_w3 := hT.bel; have n_w3 := (hT.blk rfl).1; have q_w3 := (hT.blk rfl).2; clear hT; rw [if_pos rfl] at q_w3; dsimp only; generalize g 6 = b3 at *; clear g
  have q1 : Blk w3 w2.heap.size [.int .u64 7, .bool false, .int .u64 0, .bool true, .int .u64 3, .int .i64 1] 26 := (Blk.new _ _ rfl).below bel_w3
  have p3 : Below w.heap.size w w3 := (by repeat' (first | with_reducible exact Below.refl _ _ | with_reducible assumption | with_reducible refine bel_drew ?_ | with_reducible refine bel_alloc ?_ _ | with_reducible refine bel_set ?_ ?_ _ | with_reducible refine bel_call ?_ (by assumption) | (dsimp only; omega) | (simp; done) | (simp; omega)))
  have q1c0 : w3.cell? ⟨w2.heap.size, 0, none⟩ = some (.int .u64 7) := q1.cell 0; have q1c1 : w3.cell? ⟨w2.heap.size, 1, none⟩ = some (.bool false) := q1.cell 1; have q1c2 : w3.cell? ⟨w2.heap.size, 2, none⟩ = some (.int .u64 0) := q1.cell 2; have q1c3 : w3.cell? ⟨w2.heap.size, 3, none⟩ = some (.bool true) := q1.cell 3; have q1c4 : w3.cell? ⟨w2.heap.size, 4, none⟩ = some (.int .u64 3) := q1.cell 4; have q1c5 : w3.cell? ⟨w2.heap.size, 5, none⟩ = some (.int .i64 1) := q1.cell 5; have q1z := q1.lt
  have q_w3c0 : w3.cell? ⟨b3, 0, none⟩ = some (.int .u64 7) := q_w3.cell 0; have q_w3c1 : w3.cell? ⟨b3, 1, none⟩ = some (.bool true) := q_w3.cell 1; have q_w3c2 : w3.cell? ⟨b3, 2, none⟩ = some (.int .u64 3) := q_w3.cell 2; have q_w3c3 : w3.cell? ⟨b3, 3, none⟩ = some (.bool true) := q_w3.cell 3; have q_w3c4 : w3.cell? ⟨b3, 4, none⟩ = some (.int .u64 5) := q_w3.cell 4; have q_w3c5 : w3.cell? ⟨b3, 5, none⟩ = some (.int .i64 4) := q_w3.cell 5; have q_w3z := q_w3.lt
  go_wp2_with fail
  clear bel_w3 n_w3 A2
  refine wp_region_ghost (NewC _ 6 7 [.int .u64 0, .bool false, .int .u64 0, .bool false, .int .u64 0, .int .i64 0] [.int .u64 0, .bool false, .int .u64 0, .bool false, .int .u64 0, .int .i64 0] 26) (by kernel_rfl) (by kernel_rfl) NewC.loc (.begin (Below.refl _ _).drew rfl) ?_
  refine lexg_val (fun _ => by rfl) ?_; apply Exists.intro; refine ⟨?_, ?_⟩; ((intro g L w' hU hT; have hT' := hT.upd (i := 0) (by decide) (by decide); obtain ⟨hc, hf⟩ := bcell hT.bel; clear hT hU; go_simp; exact rfl)); simp only [Act.put, List.setIfInBounds_toArray, List.set_cons_zero, List.set_cons_succ]
  refine lexg_val (fun _ => by rfl) ?_; apply Exists.intro; refine ⟨?_, ?_⟩; ((intro g L w' hU hT; have hT' := hT.upd (i := 1) (by decide) (by decide); obtain ⟨hc, hf⟩ := bcell hT.bel; clear hT hU; go_simp; first | exact rfl | exact (B1.out _ _).mono fun e w'' ⟨he, hb⟩ => ⟨he, hT'.next hb⟩)); simp only [Act.put, List.setIfInBounds_toArray, List.set_cons_zero, List.set_cons_succ]
  refine lexg_val (fun _ => by rfl) ?_; apply Exists.intro; refine ⟨?_, ?_⟩; ((intro g L w' hU hT; have hT' := hT.upd (i := 2) (by decide) (by decide); obtain ⟨hc, hf⟩ := bcell hT.bel; clear hT hU; go_simp; first | exact rfl | exact (A3.out _).mono fun e w'' ⟨he, hb⟩ => ⟨he, hT'.next hb⟩)); simp only [Act.put, List.setIfInBounds_toArray, List.set_cons_zero, List.set_cons_succ]
  refine lexg_val (fun _ => by rfl) ?_; apply Exists.intro; refine ⟨?_, ?_⟩; ((intro g L w' hU hT; have hT' := hT.upd (i := 3) (by decide) (by decide); obtain ⟨hc, hf⟩ := bcell hT.bel; clear hT hU; go_simp; exact rfl)); simp only [Act.put, List.setIfInBounds_toArray, List.set_cons_zero, List.set_cons_succ]
  refine lexg_val (fun _ => by rfl) ?_; apply Exists.intro; refine ⟨?_, ?_⟩; ((intro g L w' hU hT; have hT' := hT.upd (i := 4) (by decide) (by decide); obtain ⟨hc, hf⟩ := bcell hT.bel; clear hT hU; go_simp; exact rfl)); simp only [Act.put, List.setIfInBounds_toArray, List.set_cons_zero, List.set_cons_succ]
  refine lexg_val (fun _ => by rfl) ?_; apply Exists.intro; refine ⟨?_, ?_⟩; ((intro g L w' hU hT; have hT' := hT.upd (i := 5) (by decide) (by decide); obtain ⟨hc, hf⟩ := bcell hT.bel; clear hT hU; go_simp; exact rfl)); simp only [Act.put, List.setIfInBounds_toArray, List.set_cons_zero, List.set_cons_succ]
  refine lexg_alloc (fun b => .pointer (some ⟨b, 0, none⟩)) (fun _ => by rfl) ?_ ?_; ((intro g L w' hU hT; refine ⟨w'.heap.size, _, ?_, hT.alloc (hU.closed.no (j := 7) rfl (by kernel_rfl) hU.not) (by decide)⟩; clear hT hU; go_simp)); simp only [Nat.reduceAdd]; simp only [Act.put, List.setIfInBounds_toArray, List.set_cons_zero, List.set_cons_succ]
  refine lexg_op (fun _ => by rfl) ?_; refine ⟨fun _ => undef, ?_, known_const _ _, ?_⟩; ((intro g L w' hU hT; have hK : L 6 = true := hU.yes (m := 6) rfl (by kernel_rfl); have hL := hU.not; have hT' := hT.store hK hL rfl; have hB := (hT.blk hK).2; rw [hL, if_neg (by decide)] at hB; have zc0 := hB.cell 0; have zf0 := hB.free 0; have zc1 := hB.cell 1; have zf1 := hB.free 1; have zc2 := hB.cell 2; have zf2 := hB.free 2; have zc3 := hB.cell 3; have zf3 := hB.free 3; have zc4 := hB.cell 4; have zf4 := hB.free 4; have zc5 := hB.cell 5; have zf5 := hB.free 5; simp only [List.getElem?_cons_zero, List.getElem?_cons_succ] at zc0 zc1 zc2 zc3 zc4 zc5; clear hT hU hK; go_simp; first | exact hT' | exact ⟨hT', rfl⟩)); simp only [Act.put]
  refine lexg_val (fun _ => by rfl) ?_; apply Exists.intro; refine ⟨?_, ?_⟩; ((intro g L w' hU hT; have hT' := hT.upd (i := 8) (by decide) (by decide); obtain ⟨hc, hf⟩ := bcell hT.bel; clear hT hU; go_simp; exact rfl)); simp only [Act.put, List.setIfInBounds_toArray, List.set_cons_zero, List.set_cons_succ]
  refine lexg_nil ?_; intro g w4 hT; have bel_w4 := hT.bel; have n_w4 := (hT.blk rfl).1; have q_w4 := (hT.blk rfl).2; clear hT; rw [if_pos rfl] at q_w4; dsimp only; generalize g 6 = b4 at *; clear g
  have r1 := q1.below bel_w4
  have r2 := q_w3.below bel_w4
  have p4 : Below w.heap.size w w4 := (by repeat' (first | with_reducible exact Below.refl _ _ | with_reducible assumption | with_reducible refine bel_drew ?_ | with_reducible refine bel_alloc ?_ _ | with_reducible refine bel_set ?_ ?_ _ | with_reducible refine bel_call ?_ (by assumption) | (dsimp only; omega) | (simp; done) | (simp; omega)))
  clear q1 q1c0 q1c1 q1c2 q1c3 q1c4 q1c5 q1z q_w3 q_w3c0 q_w3c1 q_w3c2 q_w3c3 q_w3c4 q_w3c5 q_w3z n_w4 q_w4 bel_w4 A3 p3
  have r1c0 : w4.cell? ⟨w2.heap.size, 0, none⟩ = some (.int .u64 7) := r1.cell 0; have r1c1 : w4.cell? ⟨w2.heap.size, 1, none⟩ = some (.bool false) := r1.cell 1; have r1c2 : w4.cell? ⟨w2.heap.size, 2, none⟩ = some (.int .u64 0) := r1.cell 2; have r1c3 : w4.cell? ⟨w2.heap.size, 3, none⟩ = some (.bool true) := r1.cell 3; have r1c4 : w4.cell? ⟨w2.heap.size, 4, none⟩ = some (.int .u64 3) := r1.cell 4; have r1c5 : w4.cell? ⟨w2.heap.size, 5, none⟩ = some (.int .i64 1) := r1.cell 5; have r1z := r1.lt
  have r2c0 : w4.cell? ⟨b3, 0, none⟩ = some (.int .u64 7) := r2.cell 0; have r2c1 : w4.cell? ⟨b3, 1, none⟩ = some (.bool true) := r2.cell 1; have r2c2 : w4.cell? ⟨b3, 2, none⟩ = some (.int .u64 3) := r2.cell 2; have r2c3 : w4.cell? ⟨b3, 3, none⟩ = some (.bool true) := r2.cell 3; have r2c4 : w4.cell? ⟨b3, 4, none⟩ = some (.int .u64 5) := r2.cell 4; have r2c5 : w4.cell? ⟨b3, 5, none⟩ = some (.int .i64 4) := r2.cell 5; have r2z := r2.lt
  go_wp2_with fail
  refine wp_region_below (by kernel_rfl) (by kernel_rfl) ?_
  iterate 48 (first | (refine lex_skip (by rfl) (fun _ _ _ _ h => h) ?_; simp only [Act.put, List.setIfInBounds_toArray, List.set_cons_zero, List.set_cons_succ]) | (refine lex_op (by rfl) ?_; apply Exists.intro; refine ⟨?_, ?_⟩; ((intro _ _ _ _ hT; obtain ⟨hc, hf⟩ := bcell hT; go_simp; first | exact rfl | (first | with_reducible exact call_below hT (B1.out _ _) | with_reducible exact call_below hT (B2.out _ _ _ _) | with_reducible exact call_below hT (A4.out _) | with_reducible exact call_below hT (A5.out _) | with_reducible exact call_below hT (A6.out _) | with_reducible exact call_below hT (A7.out _) | with_reducible exact call_below hT (A8.out _)))); simp only [Act.put, List.setIfInBounds_toArray, List.set_cons_zero, List.set_cons_succ]))
  refine lex_nil ?_
  intro w5 hb5
  go_wp2_with fail
  go_ret
  exact ⟨rfl, (by repeat' (first | with_reducible exact Below.refl _ _ | with_reducible assumption | with_reducible refine bel_drew ?_ | with_reducible refine bel_alloc ?_ _ | with_reducible refine bel_set ?_ ?_ _ | with_reducible refine bel_call ?_ (by assumption) | (dsimp only; omega) | (simp; done) | (simp; omega)))⟩
end Go.Proofs.Ytelofaceadlfmaa
