/- WALK of AggLaws. -/
import Derived.Test.YtelofaceadlfmaaDoorAggS
namespace Go.Proofs.YtelofaceadlfmaaDoor
open Go.RowKit Fl
/-- what AggLaws leans on -/
theorem laws_cases (k : Int) (A B : V) :
    (known k = false ∧ fit k A = ⟨false, 0⟩ ∧ merge k A B = ⟨false, 0⟩) ∨
    (known k = true ∧ A.has = false ∧ fit k A = ⟨false, 0⟩ ∧ (merge k A B).has = B.has) ∨
    (known k = true ∧ A.has = true ∧ (fit k A).has = true ∧ (merge k A B).has = true) := by
  cases hk : known k with
  | false => exact .inl ⟨rfl, fit_unknown hk, merge_unknown hk⟩
  | true =>
    right
    cases ha : A.has with
    | false => exact .inl ⟨rfl, rfl, fit_not ha, by rw [merge_has hk, ha]; rfl⟩
    | true => exact .inr ⟨rfl, rfl, by rw [fit_has hk, ha], by rw [merge_has hk, ha]; rfl⟩
set_option maxRecDepth 100000 in
set_option maxHeartbeats 8000000 in
theorem llaws_any (k : Int) (A B C : V) (w : World) (ht : Tab w) (hA : A.ok) (hB : B.ok) (hC : C.ok) :
    Calls Tryd.prog 6 #[.agg #[.int .i64 k, .bool A.has, .int .u64 A.bits, .bool B.has, .int .u64 B.bits, .bool C.has, .int .u64 C.bits]] w fun e w' => e = .returned (.bool true) ∧ Below w.heap.size w w' := by
  have C0 : Hid (∀ w2, Below w.heap.size w w2 → Calls Tryd.prog 9 #[] w2 fun e w' => e = .returned (.bool true) ∧ Below w2.heap.size w2 w') := Lib.hid (fun w2 hb => aawake_any w2 (ht.below hb))
  have hab : (merge k A B).ok := merge_ok hA hB
  have C1 := Lib.hid (fun w => merge_any k A B w hA hB)
  have C2 := Lib.hid (fun w => merge_any k B A w hB hA)
  rw [merge_comm hB hA] at C2
  have C3 := Lib.hid (fun w => merge_any k (merge k A B) C w hab hC)
  have C4 := Lib.hid (fun w => merge_any k B C w hB hC)
  have C5 := Lib.hid (fun w => merge_any k A (merge k B C) w hA (merge_ok hB hC))
  rw [← merge_assoc hA hB hC] at C5
  have C6 := Lib.hid (fun w => fit_any k A w hA)
  have C7 := Lib.hid (fun w => merge_any k A V.none w hA none_ok)
  rw [merge_none_right] at C7
  have C8 := Lib.hid (fun w => merge_any k V.none A w none_ok hA)
  rw [merge_none_left] at C8
  have C9 := Lib.hid (fun w => fit_any k (fit k A) w (fit_ok hA))
  rw [fit_fit] at C9
  have C10 := Lib.hid (fun w => fit_any k (merge k A B) w hab)
  rw [fit_merge] at C10
  have C11 := Lib.hid (fun w => known_any k w)
  have C12 : Hid (k = 3 ∨ k = 4 → ∀ w, Calls Tryd.prog 16 #[.int .i64 k, .agg #[.bool A.has, .int .u64 A.bits], .agg #[.bool A.has, .int .u64 A.bits]] w fun e w' => e = .returned (.agg #[.bool (fit k A).has, .int .u64 (fit k A).bits]) ∧ Below w.heap.size w w') :=
    Lib.hid (fun hk w => by have := merge_any k A A w hA hA; rw [merge_self hA hk] at this; exact this)
  have hcs := laws_cases k A B
  clear ht hA hB hC hab
  generalize merge k (merge k A B) C = abc at *
  generalize merge k B C = bc at *
  generalize merge k A B = ab at *
  generalize fit k A = fv at *
  generalize known k = kn at *
  obtain ⟨ah, a⟩ := A
  obtain ⟨bh, b⟩ := B
  obtain ⟨ch, c⟩ := C
  obtain ⟨abh, abb⟩ := ab
  obtain ⟨fh, fb⟩ := fv
  simp only [V.none] at C7 C8
  dsimp only at *
  have hE : (bh != bh) = false := by simp
  have HC := Lib.hid hcs
  clear hcs
  go_enter Tryd.func6, Tryd.ntmps6
  go_wp2_with fail
  refine (C0.out _ (by repeat' (first | with_reducible exact Below.refl _ _ | with_reducible assumption | with_reducible refine bel_drew ?_ | with_reducible refine bel_alloc ?_ _ | with_reducible refine bel_set ?_ ?_ _ | with_reducible refine bel_call ?_ (by assumption) | (dsimp only; omega) | (simp; done) | (simp; omega)))).mono ?_
  rintro e w1 ⟨rfl, hb⟩
  have p1 : Below w.heap.size w w1 := (by repeat' (first | with_reducible exact Below.refl _ _ | with_reducible assumption | with_reducible refine bel_drew ?_ | with_reducible refine bel_alloc ?_ _ | with_reducible refine bel_set ?_ ?_ _ | with_reducible refine bel_call ?_ (by assumption) | (dsimp only; omega) | (simp; done) | (simp; omega)))
  have q1 : Blk w1 w.heap.size [.int .i64 k, .bool ah, .int .u64 a, .bool bh, .int .u64 b, .bool ch, .int .u64 c] 37 := Blk.below (by repeat' (first | with_reducible assumption | (show (_ : List Value) = _; rfl) | with_reducible exact Blk.new _ _ rfl | (with_reducible refine Blk.new _ _ ?_; simp; done) | with_reducible apply Blk.set_eq | with_reducible apply Blk.other | with_reducible apply Blk.alloc | with_reducible apply Blk.drew | (simp; done) | (simp; omega))) hb
  clear hb C0
  have q1c0 : w1.cell? ⟨w.heap.size, 0, none⟩ = some (.int .i64 k) := q1.cell 0; have q1c1 : w1.cell? ⟨w.heap.size, 1, none⟩ = some (.bool ah) := q1.cell 1; have q1c2 : w1.cell? ⟨w.heap.size, 2, none⟩ = some (.int .u64 a) := q1.cell 2; have q1c3 : w1.cell? ⟨w.heap.size, 3, none⟩ = some (.bool bh) := q1.cell 3; have q1c4 : w1.cell? ⟨w.heap.size, 4, none⟩ = some (.int .u64 b) := q1.cell 4; have q1c5 : w1.cell? ⟨w.heap.size, 5, none⟩ = some (.bool ch) := q1.cell 5; have q1c6 : w1.cell? ⟨w.heap.size, 6, none⟩ = some (.int .u64 c) := q1.cell 6; have q1z := q1.lt
  go_wp2_with fail
  refine (C1.out _).mono ?_
  rintro e w2 ⟨rfl, hb⟩
  have p2 : Below w.heap.size w w2 := (by repeat' (first | with_reducible exact Below.refl _ _ | with_reducible assumption | with_reducible refine bel_drew ?_ | with_reducible refine bel_alloc ?_ _ | with_reducible refine bel_set ?_ ?_ _ | with_reducible refine bel_call ?_ (by assumption) | (dsimp only; omega) | (simp; done) | (simp; omega)))
  have q2 := q1.below hb
  clear hb p1 q1c0 q1c1 q1c2 q1c3 q1c4 q1c5 q1c6 q1z q1
  have q2c0 : w2.cell? ⟨w.heap.size, 0, none⟩ = some (.int .i64 k) := q2.cell 0; have q2c1 : w2.cell? ⟨w.heap.size, 1, none⟩ = some (.bool ah) := q2.cell 1; have q2c2 : w2.cell? ⟨w.heap.size, 2, none⟩ = some (.int .u64 a) := q2.cell 2; have q2c3 : w2.cell? ⟨w.heap.size, 3, none⟩ = some (.bool bh) := q2.cell 3; have q2c4 : w2.cell? ⟨w.heap.size, 4, none⟩ = some (.int .u64 b) := q2.cell 4; have q2c5 : w2.cell? ⟨w.heap.size, 5, none⟩ = some (.bool ch) := q2.cell 5; have q2c6 : w2.cell? ⟨w.heap.size, 6, none⟩ = some (.int .u64 c) := q2.cell 6; have q2z := q2.lt
  go_wp2_with fail
  have n2 : w.heap.size < w2.heap.size := q2.lt
  refine wp_forget (X := fun W => Below w.heap.size w W ∧ Blk W w.heap.size [.int .i64 k, .bool ah, .int .u64 a, .bool bh, .int .u64 b, .bool ch, .int .u64 c] 37 ∧ Blk W w2.heap.size [.bool abh, .int .u64 abb] 27) ⟨(by repeat' (first | with_reducible exact Below.refl _ _ | with_reducible assumption | with_reducible refine bel_drew ?_ | with_reducible refine bel_alloc ?_ _ | with_reducible refine bel_set ?_ ?_ _ | with_reducible refine bel_call ?_ (by assumption) | (dsimp only; omega) | (simp; done) | (simp; omega))), (by repeat' (first | with_reducible assumption | (show (_ : List Value) = _; rfl) | with_reducible exact Blk.new _ _ rfl | (with_reducible refine Blk.new _ _ ?_; simp; done) | with_reducible apply Blk.set_eq | with_reducible apply Blk.other | with_reducible apply Blk.alloc | with_reducible apply Blk.drew | (simp; done) | (simp; omega))), (by repeat' (first | with_reducible assumption | (show (_ : List Value) = _; rfl) | with_reducible exact Blk.new _ _ rfl | (with_reducible refine Blk.new _ _ ?_; simp; done) | with_reducible apply Blk.set_eq | with_reducible apply Blk.other | with_reducible apply Blk.alloc | with_reducible apply Blk.drew | (simp; done) | (simp; omega)))⟩ ?_
  clear q2 p2 q2c0 q2c1 q2c2 q2c3 q2c4 q2c5 q2c6 q2z
  generalize w2.heap.size = b4 at *
  rintro w3 ⟨p3, q3, r3⟩
  have q3c0 : w3.cell? ⟨w.heap.size, 0, none⟩ = some (.int .i64 k) := q3.cell 0; have q3c1 : w3.cell? ⟨w.heap.size, 1, none⟩ = some (.bool ah) := q3.cell 1; have q3c2 : w3.cell? ⟨w.heap.size, 2, none⟩ = some (.int .u64 a) := q3.cell 2; have q3c3 : w3.cell? ⟨w.heap.size, 3, none⟩ = some (.bool bh) := q3.cell 3; have q3c4 : w3.cell? ⟨w.heap.size, 4, none⟩ = some (.int .u64 b) := q3.cell 4; have q3c5 : w3.cell? ⟨w.heap.size, 5, none⟩ = some (.bool ch) := q3.cell 5; have q3c6 : w3.cell? ⟨w.heap.size, 6, none⟩ = some (.int .u64 c) := q3.cell 6; have q3z := q3.lt
  have r3c0 : w3.cell? ⟨b4, 0, none⟩ = some (.bool abh) := r3.cell 0; have r3c1 : w3.cell? ⟨b4, 1, none⟩ = some (.int .u64 abb) := r3.cell 1; have r3z := r3.lt
  refine wp_region_below (by kernel_rfl) (by kernel_rfl) ?_
  iterate 26 (first | (refine lex_skip (by rfl) (fun _ _ _ _ h => h) ?_; simp only [Act.put, List.setIfInBounds_toArray, List.set_cons_zero, List.set_cons_succ]) | (refine lex_op (by rfl) ?_; apply Exists.intro; refine ⟨?_, ?_⟩; ((intro _ _ _ _ hT; obtain ⟨hc, hf⟩ := bcell hT; go_simp; first | exact rfl | (with_reducible exact call_below hT (C2.out _)) | (with_reducible exact call_below hT (C3.out _)) | (with_reducible exact call_below hT (C4.out _)) | (with_reducible exact call_below hT (C5.out _)))); simp only [Act.put, List.setIfInBounds_toArray, List.set_cons_zero, List.set_cons_succ]))
  refine lex_nil ?_
  intro w4 bel4
  have p4 : Below w.heap.size w w4 := (by repeat' (first | with_reducible exact Below.refl _ _ | with_reducible assumption | with_reducible refine bel_drew ?_ | with_reducible refine bel_alloc ?_ _ | with_reducible refine bel_set ?_ ?_ _ | with_reducible refine bel_call ?_ (by assumption) | (dsimp only; omega) | (simp; done) | (simp; omega)))
  have q4 := q3.below bel4
  have r4 := r3.below bel4
  clear bel4 q3 r3 p3 q3c0 q3c1 q3c2 q3c3 q3c4 q3c5 q3c6 q3z r3c0 r3c1 r3z C1 C2 C3 C4 C5
  have q4c0 : w4.cell? ⟨w.heap.size, 0, none⟩ = some (.int .i64 k) := q4.cell 0; have q4c1 : w4.cell? ⟨w.heap.size, 1, none⟩ = some (.bool ah) := q4.cell 1; have q4c2 : w4.cell? ⟨w.heap.size, 2, none⟩ = some (.int .u64 a) := q4.cell 2; have q4c3 : w4.cell? ⟨w.heap.size, 3, none⟩ = some (.bool bh) := q4.cell 3; have q4c4 : w4.cell? ⟨w.heap.size, 4, none⟩ = some (.int .u64 b) := q4.cell 4; have q4c5 : w4.cell? ⟨w.heap.size, 5, none⟩ = some (.bool ch) := q4.cell 5; have q4c6 : w4.cell? ⟨w.heap.size, 6, none⟩ = some (.int .u64 c) := q4.cell 6; have q4z := q4.lt
  go_wp2_with fail
  refine (C6.out _).mono ?_
  rintro e w5 ⟨rfl, hb⟩
  have p5 : Below w.heap.size w w5 := (by repeat' (first | with_reducible exact Below.refl _ _ | with_reducible assumption | with_reducible refine bel_drew ?_ | with_reducible refine bel_alloc ?_ _ | with_reducible refine bel_set ?_ ?_ _ | with_reducible refine bel_call ?_ (by assumption) | (dsimp only; omega) | (simp; done) | (simp; omega)))
  have q5 := q4.below hb
  have r5 := r4.below hb
  clear hb p4 q4c0 q4c1 q4c2 q4c3 q4c4 q4c5 q4c6 q4z q4 r4
  have n5 : b4 < w5.heap.size := r5.lt
  go_wp2_with fail
  refine wp_forget (X := fun W => Below w.heap.size w W ∧ Blk W w.heap.size [.int .i64 k, .bool ah, .int .u64 a, .bool bh, .int .u64 b, .bool ch, .int .u64 c] 37 ∧ Blk W b4 [.bool abh, .int .u64 abb] 27 ∧ Blk W w5.heap.size [.bool fh, .int .u64 fb] 27) ⟨(by repeat' (first | with_reducible exact Below.refl _ _ | with_reducible assumption | with_reducible refine bel_drew ?_ | with_reducible refine bel_alloc ?_ _ | with_reducible refine bel_set ?_ ?_ _ | with_reducible refine bel_call ?_ (by assumption) | (dsimp only; omega) | (simp; done) | (simp; omega))), (by repeat' (first | with_reducible assumption | (show (_ : List Value) = _; rfl) | with_reducible exact Blk.new _ _ rfl | (with_reducible refine Blk.new _ _ ?_; simp; done) | with_reducible apply Blk.set_eq | with_reducible apply Blk.other | with_reducible apply Blk.alloc | with_reducible apply Blk.drew | (simp; done) | (simp; omega))), (by repeat' (first | with_reducible assumption | (show (_ : List Value) = _; rfl) | with_reducible exact Blk.new _ _ rfl | (with_reducible refine Blk.new _ _ ?_; simp; done) | with_reducible apply Blk.set_eq | with_reducible apply Blk.other | with_reducible apply Blk.alloc | with_reducible apply Blk.drew | (simp; done) | (simp; omega))), (by repeat' (first | with_reducible assumption | (show (_ : List Value) = _; rfl) | with_reducible exact Blk.new _ _ rfl | (with_reducible refine Blk.new _ _ ?_; simp; done) | with_reducible apply Blk.set_eq | with_reducible apply Blk.other | with_reducible apply Blk.alloc | with_reducible apply Blk.drew | (simp; done) | (simp; omega)))⟩ ?_
  clear q5 p5 r5
  generalize w5.heap.size = b5 at *
  rintro w6 ⟨p6, q6, r6, s6⟩
  have q6c0 : w6.cell? ⟨w.heap.size, 0, none⟩ = some (.int .i64 k) := q6.cell 0; have q6c1 : w6.cell? ⟨w.heap.size, 1, none⟩ = some (.bool ah) := q6.cell 1; have q6c2 : w6.cell? ⟨w.heap.size, 2, none⟩ = some (.int .u64 a) := q6.cell 2; have q6c3 : w6.cell? ⟨w.heap.size, 3, none⟩ = some (.bool bh) := q6.cell 3; have q6c4 : w6.cell? ⟨w.heap.size, 4, none⟩ = some (.int .u64 b) := q6.cell 4; have q6c5 : w6.cell? ⟨w.heap.size, 5, none⟩ = some (.bool ch) := q6.cell 5; have q6c6 : w6.cell? ⟨w.heap.size, 6, none⟩ = some (.int .u64 c) := q6.cell 6; have q6z := q6.lt
  have r6c0 : w6.cell? ⟨b4, 0, none⟩ = some (.bool abh) := r6.cell 0; have r6c1 : w6.cell? ⟨b4, 1, none⟩ = some (.int .u64 abb) := r6.cell 1; have r6z := r6.lt
  have s6c0 : w6.cell? ⟨b5, 0, none⟩ = some (.bool fh) := s6.cell 0; have s6c1 : w6.cell? ⟨b5, 1, none⟩ = some (.int .u64 fb) := s6.cell 1; have s6z := s6.lt
  refine wp_region_below (by kernel_rfl) (by kernel_rfl) ?_
  iterate 30 (first | (refine lex_skip (by rfl) (fun _ _ _ _ h => h) ?_; simp only [Act.put, List.setIfInBounds_toArray, List.set_cons_zero, List.set_cons_succ]) | (refine lex_op (by rfl) ?_; apply Exists.intro; refine ⟨?_, ?_⟩; ((intro _ _ _ _ hT; obtain ⟨hc, hf⟩ := bcell hT; go_simp; first | exact rfl | (with_reducible exact call_below hT (C7.out _)) | (with_reducible exact call_below hT (C8.out _)) | (with_reducible exact call_below hT (C9.out _)) | (with_reducible exact call_below hT (C10.out _)))); simp only [Act.put, List.setIfInBounds_toArray, List.set_cons_zero, List.set_cons_succ]))
  refine lex_nil ?_
  intro w7 bel7
  have p7 : Below w.heap.size w w7 := (by repeat' (first | with_reducible exact Below.refl _ _ | with_reducible assumption | with_reducible refine bel_drew ?_ | with_reducible refine bel_alloc ?_ _ | with_reducible refine bel_set ?_ ?_ _ | with_reducible refine bel_call ?_ (by assumption) | (dsimp only; omega) | (simp; done) | (simp; omega)))
  have q7 := q6.below bel7
  have r7 := r6.below bel7
  have s7 := s6.below bel7
  clear bel7 q6 r6 s6 p6 q6c0 q6c1 q6c2 q6c3 q6c4 q6c5 q6c6 q6z r6c0 r6c1 r6z s6c0 s6c1 s6z C6 C7 C8 C9 C10
  have q7c0 : w7.cell? ⟨w.heap.size, 0, none⟩ = some (.int .i64 k) := q7.cell 0; have q7c1 : w7.cell? ⟨w.heap.size, 1, none⟩ = some (.bool ah) := q7.cell 1; have q7c2 : w7.cell? ⟨w.heap.size, 2, none⟩ = some (.int .u64 a) := q7.cell 2; have q7c3 : w7.cell? ⟨w.heap.size, 3, none⟩ = some (.bool bh) := q7.cell 3; have q7c4 : w7.cell? ⟨w.heap.size, 4, none⟩ = some (.int .u64 b) := q7.cell 4; have q7c5 : w7.cell? ⟨w.heap.size, 5, none⟩ = some (.bool ch) := q7.cell 5; have q7c6 : w7.cell? ⟨w.heap.size, 6, none⟩ = some (.int .u64 c) := q7.cell 6; have q7z := q7.lt
  have r7c0 : w7.cell? ⟨b4, 0, none⟩ = some (.bool abh) := r7.cell 0; have r7c1 : w7.cell? ⟨b4, 1, none⟩ = some (.int .u64 abb) := r7.cell 1; have r7z := r7.lt
  have s7c0 : w7.cell? ⟨b5, 0, none⟩ = some (.bool fh) := s7.cell 0; have s7c1 : w7.cell? ⟨b5, 1, none⟩ = some (.int .u64 fb) := s7.cell 1; have s7z := s7.lt
  rcases HC.out with ⟨rfl, h1, h2⟩ | ⟨rfl, rfl, h1, rfl⟩ | ⟨rfl, rfl, rfl, rfl⟩
  case' inl => cases h1; cases h2
  case' inr.inl => cases h1
  all_goals
    go_wp2_with fail
    refine (C11.out _).mono ?_
    rintro e w8 ⟨rfl, rfl⟩
    go_wp2_with fail
    refine (C11.out _).mono ?_
    rintro e w8 ⟨rfl, rfl⟩
    go_wp2_with fail
    by_cases h34 : k = 3 ∨ k = 4
    · have C13 := Lib.hid (C12.out h34)
      clear C11 C12 HC r7c0 r7c1 r7z r7
      rcases h34 with rfl | rfl
      all_goals
        refine wp_region_below (by kernel_rfl) (by kernel_rfl) ?_
        iterate 17 (first | (refine lex_skip (by rfl) (fun _ _ _ _ h => h) ?_; simp only [Act.put, List.setIfInBounds_toArray, List.set_cons_zero, List.set_cons_succ]) | (refine lex_op (by rfl) ?_; apply Exists.intro; refine ⟨?_, ?_⟩; ((intro _ _ _ _ hT; obtain ⟨hc, hf⟩ := bcell hT; go_simp; first | exact rfl | (with_reducible exact call_below hT (C13.out _)))); simp only [Act.put, List.setIfInBounds_toArray, List.set_cons_zero, List.set_cons_succ]))
        refine lex_nil ?_
        intro w9 bel9
        have p9 : Below w.heap.size w w9 := (by repeat' (first | with_reducible exact Below.refl _ _ | with_reducible assumption | with_reducible refine bel_drew ?_ | with_reducible refine bel_alloc ?_ _ | with_reducible refine bel_set ?_ ?_ _ | with_reducible refine bel_call ?_ (by assumption) | (dsimp only; omega) | (simp; done) | (simp; omega)))
        clear q7c0 q7c1 q7c2 q7c3 q7c4 q7c5 q7c6 q7z s7c0 s7c1 s7z bel9 p7 q7 s7
        go_wp2_with fail
        go_ret
        exact ⟨rfl, p9⟩
    · have e3 : (k != 3) = true := by simp; exact fun h => h34 (.inl h)
      have e4 : (k != 4) = true := by simp; exact fun h => h34 (.inr h)
      clear C11 C12 HC r7c0 r7c1 r7z r7 h34
      refine wp_region_below (by kernel_rfl) (by kernel_rfl) ?_
      iterate 17 (first | (refine lex_skip (by rfl) (fun _ _ _ _ h => h) ?_; simp only [Act.put, List.setIfInBounds_toArray, List.set_cons_zero, List.set_cons_succ]) | (refine lex_op (by rfl) ?_; apply Exists.intro; refine ⟨?_, ?_⟩; ((intro _ _ _ _ hT; obtain ⟨hc, hf⟩ := bcell hT; go_simp; first | exact rfl | fail)); simp only [Act.put, List.setIfInBounds_toArray, List.set_cons_zero, List.set_cons_succ]))
      refine lex_nil ?_
      intro w9 bel9
      have p9 : Below w.heap.size w w9 := (by repeat' (first | with_reducible exact Below.refl _ _ | with_reducible assumption | with_reducible refine bel_drew ?_ | with_reducible refine bel_alloc ?_ _ | with_reducible refine bel_set ?_ ?_ _ | with_reducible refine bel_call ?_ (by assumption) | (dsimp only; omega) | (simp; done) | (simp; omega)))
      clear q7c0 q7c1 q7c2 q7c3 q7c4 q7c5 q7c6 q7z s7c0 s7c1 s7z bel9 p7 q7 s7 e3 e4
      go_wp2_with fail
      go_ret
      exact ⟨rfl, p9⟩
end Go.Proofs.YtelofaceadlfmaaDoor
