/- WALK of agg.Merge. -/
import Derived.Test.YtelofaceadlfmaaDoorAggA
namespace Go.Proofs.YtelofaceadlfmaaDoor
open Go.RowKit
open Fl (nan key canon ord least most known fit merge mergeF V)

/-- the worlds of 'a, b = Fit(a), Fit(b)' -/
structure MergeC (w : World) (x y fx fy : V) (L : Nat → Bool) (w' : World) : Prop where
  bel : Below w.heap.size w w'
  one : Blk w' w.heap.size (if L 6 then [.bool fx.has, .int .u64 fx.bits] else [.bool x.has, .int .u64 x.bits]) 27
  two : Blk w' (w.heap.size + 1) (if L 7 then [.bool fy.has, .int .u64 fy.bits] else [.bool y.has, .int .u64 y.bits]) 27
  res : Blk w' (w.heap.size + 1 + 1) [.bool false, .int .u64 0] 27

theorem MergeC.upd {w : World} {x y fx fy : V} {L : Nat → Bool} {w' : World} (h : MergeC w x y fx fy L w') {k : Nat} (h6 : k ≠ 6) (h7 : k ≠ 7) : MergeC w x y fx fy (upd L k) w' :=
  ⟨h.bel, by rw [upd_other L (Ne.symm h6)]; exact h.one, by rw [upd_other L (Ne.symm h7)]; exact h.two, h.res⟩
theorem MergeC.next {w : World} {x y fx fy : V} {L : Nat → Bool} {w' w'' : World} (h : MergeC w x y fx fy L w') (hb : Below w'.heap.size w' w'') : MergeC w x y fx fy L w'' :=
  ⟨bel_call h.bel hb, h.one.below hb, h.two.below hb, h.res.below hb⟩

set_option maxHeartbeats 1000000 in
theorem merge_any (k : Int) (x y : V) (w : World) (hx : x.ok) (hy : y.ok) :
    Calls Tryd.prog 16 #[.int .i64 k, .agg #[.bool x.has, .int .u64 x.bits], .agg #[.bool y.has, .int .u64 y.bits]] w
      fun e w' => e = .returned (.agg #[.bool (merge k x y).has, .int .u64 (merge k x y).bits]) ∧ Below w.heap.size w w' := by
  have c1 := fun w => fit_any k x w hx
  have c2 := fun w => fit_any k y w hy
  have o1 := Fl.fit_ok (k := k) hx
  have o2 := Fl.fit_ok (k := k) hy
  have k1 : 3 = k ∨ 4 = k → known k = true := by rintro (rfl | rfl) <;> rfl
  have hm : merge k x y = mergeF k (fit k x) (fit k y) := rfl
  generalize merge k x y = m at *
  generalize fit k x = fx at *
  generalize fit k y = fy at *
  have HM := Lib.hid hm
  clear hm
  have C1 := Lib.hid c1
  have C2 := Lib.hid c2
  clear c1 c2
  go_enter Tryd.func16, Tryd.ntmps16
  go_wp2_with fail
  refine wp_region_cls (MergeC w x y fx fy) (by kernel_rfl) (by kernel_rfl) ⟨(by repeat' (first | with_reducible exact Below.refl _ _ | with_reducible assumption | with_reducible refine bel_drew ?_ | with_reducible refine bel_alloc ?_ _ | with_reducible refine bel_set ?_ ?_ _ | with_reducible refine bel_call ?_ (by assumption) | (dsimp only; omega) | (simp; done) | (simp; omega))), (((Blk.new _ _ rfl).alloc _).alloc _).drew, ((Blk.new _ _ (by simp)).alloc _).drew, (Blk.new _ _ (by simp)).drew⟩ ?_
  refine lex_op (by rfl) ?_; apply Exists.intro; refine ⟨?_, ?_⟩
  · intro L w' hL hcl hT
    have hT' := hT.upd (k := 0) (by decide) (by decide)
    clear hT hcl
    go_simp
    exact rfl
  simp only [Act.put, List.setIfInBounds_toArray, List.set_cons_zero, List.set_cons_succ]
  refine lex_op (by rfl) ?_; apply Exists.intro; refine ⟨?_, ?_⟩
  · intro L w' hL hcl hT
    have hT' := hT.upd (k := 1) (by decide) (by decide)
    have h2 := hcl.no (j := 2) (i := 1) rfl (by kernel_rfl) hL
    have h6 := hcl.no (j := 6) (i := 2) rfl (by kernel_rfl) h2
    have q := hT.one
    rw [h6, if_neg (by decide)] at q
    have d0 : w'.cell? ⟨w.heap.size, 0, none⟩ = some (.bool x.has) := q.cell 0
    have d1 : w'.cell? ⟨w.heap.size, 1, none⟩ = some (.int .u64 x.bits) := q.cell 1
    clear hT hcl h2 h6 q
    go_simp
    exact rfl
  simp only [Act.put, List.setIfInBounds_toArray, List.set_cons_zero, List.set_cons_succ]
  refine lex_op (by rfl) ?_; apply Exists.intro; refine ⟨?_, ?_⟩
  · intro L w' hL hcl hT
    have hT' := hT.upd (k := 2) (by decide) (by decide)
    clear hT hcl
    go_simp
    exact (C1.out _).mono fun e w'' ⟨he, hb⟩ => ⟨he, hT'.next hb⟩
  simp only [Act.put, List.setIfInBounds_toArray, List.set_cons_zero, List.set_cons_succ]
  refine lex_op (by rfl) ?_; apply Exists.intro; refine ⟨?_, ?_⟩
  · intro L w' hL hcl hT
    have hT' := hT.upd (k := 3) (by decide) (by decide)
    clear hT hcl
    go_simp
    exact rfl
  simp only [Act.put, List.setIfInBounds_toArray, List.set_cons_zero, List.set_cons_succ]
  refine lex_op (by rfl) ?_; apply Exists.intro; refine ⟨?_, ?_⟩
  · intro L w' hL hcl hT
    have hT' := hT.upd (k := 4) (by decide) (by decide)
    have h5 := hcl.no (j := 5) (i := 4) rfl (by kernel_rfl) hL
    have h7 := hcl.no (j := 7) (i := 5) rfl (by kernel_rfl) h5
    have q := hT.two
    rw [h7, if_neg (by decide)] at q
    have d0 : w'.cell? ⟨w.heap.size + 1, 0, none⟩ = some (.bool y.has) := q.cell 0
    have d1 : w'.cell? ⟨w.heap.size + 1, 1, none⟩ = some (.int .u64 y.bits) := q.cell 1
    clear hT hcl h5 h7 q
    go_simp
    exact rfl
  simp only [Act.put, List.setIfInBounds_toArray, List.set_cons_zero, List.set_cons_succ]
  refine lex_op (by rfl) ?_; apply Exists.intro; refine ⟨?_, ?_⟩
  · intro L w' hL hcl hT
    have hT' := hT.upd (k := 5) (by decide) (by decide)
    clear hT hcl
    go_simp
    exact (C2.out _).mono fun e w'' ⟨he, hb⟩ => ⟨he, hT'.next hb⟩
  simp only [Act.put, List.setIfInBounds_toArray, List.set_cons_zero, List.set_cons_succ]
  refine lex_op (by rfl) ?_; apply Exists.intro; refine ⟨?_, ?_⟩
  · intro L w' hL hcl hT
    have q := hT.one
    rw [hL, if_neg (by decide)] at q
    have d0 : w'.cell? ⟨w.heap.size, 0, none⟩ = some (.bool x.has) := q.cell 0
    have d1 : w'.cell? ⟨w.heap.size, 1, none⟩ = some (.int .u64 x.bits) := q.cell 1
    have f0 := q.free 0
    have f1 := q.free 1
    have hT' : MergeC w x y fx fy (upd L 6) ((w'.setCell ⟨w.heap.size, 0, none⟩ (.bool fx.has)).setCell ⟨w.heap.size, 1, none⟩ (.int .u64 fx.bits)) :=
      ⟨bel_set (bel_set hT.bel (Nat.le_refl _) _) (Nat.le_refl _) _, by rw [upd_same, if_pos rfl]; exact (q.set 0 _).set 1 _, by rw [upd_other L (by decide)]; exact (hT.two.other (by simp) _).other (by simp) _, (hT.res.other (by simp; omega) _).other (by simp; omega) _⟩
    clear hT hcl q
    go_simp
    exact rfl
  simp only [Act.put]
  refine lex_op (by rfl) ?_; apply Exists.intro; refine ⟨?_, ?_⟩
  · intro L w' hL hcl hT
    have q := hT.two
    rw [hL, if_neg (by decide)] at q
    have d0 : w'.cell? ⟨w.heap.size + 1, 0, none⟩ = some (.bool y.has) := q.cell 0
    have d1 : w'.cell? ⟨w.heap.size + 1, 1, none⟩ = some (.int .u64 y.bits) := q.cell 1
    have f0 := q.free 0
    have f1 := q.free 1
    have hT' : MergeC w x y fx fy (upd L 7) ((w'.setCell ⟨w.heap.size + 1, 0, none⟩ (.bool fy.has)).setCell ⟨w.heap.size + 1, 1, none⟩ (.int .u64 fy.bits)) :=
      ⟨bel_set (bel_set hT.bel (Nat.le_succ _) _) (Nat.le_succ _) _, by rw [upd_other L (by decide)]; exact (hT.one.other (by simp) _).other (by simp) _, by rw [upd_same, if_pos rfl]; exact (q.set 0 _).set 1 _, (hT.res.other (by simp) _).other (by simp) _⟩
    clear hT hcl q
    go_simp
    exact rfl
  simp only [Act.put]
  refine lex_nil ?_
  intro w1 hT
  obtain ⟨bel1, q1, q2, q3⟩ := hT
  rw [if_pos rfl] at q1 q2
  have d0 : w1.cell? ⟨w.heap.size, 0, none⟩ = some (.bool fx.has) := q1.cell 0
  have d1 : w1.cell? ⟨w.heap.size, 1, none⟩ = some (.int .u64 fx.bits) := q1.cell 1
  have d2 : w1.cell? ⟨w.heap.size + 1, 0, none⟩ = some (.bool fy.has) := q2.cell 0
  have d3 : w1.cell? ⟨w.heap.size + 1, 1, none⟩ = some (.int .u64 fy.bits) := q2.cell 1
  have z0 := q1.lt
  have z1 := q2.lt
  have z2 := q3.lt
  clear C1 C2
  go_wp2_with fail
  refine wp_region_below (by kernel_rfl) (by kernel_rfl) ?_
  iterate 8 (refine lex_op (by rfl) ?_; apply Exists.intro; refine ⟨?_, ?_⟩; ((intro _ _ _ _ hT; obtain ⟨hc, hf⟩ := bcell hT; go_simp; exact rfl)); simp only [Act.put, List.setIfInBounds_toArray, List.set_cons_zero, List.set_cons_succ])
  refine lex_nil ?_
  intro w2 hT
  obtain ⟨hc, hf⟩ := bcell hT
  have d4 : w1.cell? ⟨w.heap.size + 1 + 1, 0, none⟩ = some (.bool false) := q3.cell 0
  have d5 : w1.cell? ⟨w.heap.size + 1 + 1, 1, none⟩ = some (.int .u64 0) := q3.cell 1
  have f4 := q3.free 0
  have f5 := q3.free 1
  clear q1 q2 q3 hx hy
  obtain ⟨ah, ab⟩ := fx
  obtain ⟨bh, bb⟩ := fy
  dsimp only at *
  cases ah
  · clear k1 o1 o2
    go_wp2_with fail
    refine bodyPost_ret (v := .agg #[.bool bh, .int .u64 bb]) (by simp only [results, Tryd.results16]; go_simp) rfl ?_
    exact ⟨by rw [HM.out]; rfl, (by repeat' (first | with_reducible exact Below.refl _ _ | with_reducible assumption | with_reducible refine bel_drew ?_ | with_reducible refine bel_alloc ?_ _ | with_reducible refine bel_set ?_ ?_ _ | with_reducible refine bel_call ?_ (by assumption) | (dsimp only; omega) | (simp; done) | (simp; omega)))⟩
  · cases bh
    · clear k1 o1 o2
      go_wp2_with fail
      refine bodyPost_ret (v := .agg #[.bool true, .int .u64 ab]) (by simp only [results, Tryd.results16]; go_simp) rfl ?_
      exact ⟨by rw [HM.out]; rfl, (by repeat' (first | with_reducible exact Below.refl _ _ | with_reducible assumption | with_reducible refine bel_drew ?_ | with_reducible refine bel_alloc ?_ _ | with_reducible refine bel_set ?_ ?_ _ | with_reducible refine bel_call ?_ (by assumption) | (dsimp only; omega) | (simp; done) | (simp; omega)))⟩
    · have z3 := hT.size
      have p1 := bel_call bel1 hT
      clear hc hf
      have e0 : w2.cell? ⟨w.heap.size, 0, none⟩ = some (.bool true) := (hT.cell (p := ⟨w.heap.size, 0, none⟩) z0).trans d0
      have e1 : w2.cell? ⟨w.heap.size, 1, none⟩ = some (.int .u64 ab) := (hT.cell (p := ⟨w.heap.size, 1, none⟩) z0).trans d1
      have e2 : w2.cell? ⟨w.heap.size + 1, 0, none⟩ = some (.bool true) := (hT.cell (p := ⟨w.heap.size + 1, 0, none⟩) z1).trans d2
      have e3 : w2.cell? ⟨w.heap.size + 1, 1, none⟩ = some (.int .u64 bb) := (hT.cell (p := ⟨w.heap.size + 1, 1, none⟩) z1).trans d3
      have e4 : w2.cell? ⟨w.heap.size + 1 + 1, 0, none⟩ = some (.bool false) := (hT.cell (p := ⟨w.heap.size + 1 + 1, 0, none⟩) z2).trans d4
      have e5 : w2.cell? ⟨w.heap.size + 1 + 1, 1, none⟩ = some (.int .u64 0) := (hT.cell (p := ⟨w.heap.size + 1 + 1, 1, none⟩) z2).trans d5
      have g4 : w2.frozen? ⟨w.heap.size + 1 + 1, 0, none⟩ = false := (hT.frozen (p := ⟨w.heap.size + 1 + 1, 0, none⟩) z2).trans f4
      have g5 : w2.frozen? ⟨w.heap.size + 1 + 1, 1, none⟩ = false := (hT.frozen (p := ⟨w.heap.size + 1 + 1, 1, none⟩) z2).trans f5
      have y2 : w.heap.size + 1 + 1 < w2.heap.size := by omega
      clear d0 d1 d2 d3 d4 d5 f4 f5 z0 z1 z2 z3 hT bel1
      by_cases h3 : k = 3
      · subst h3
        have c1 := fun w => least_any ab bb w o1 o2
        have c2 := fun w => of_fl 3 (least ab bb) w (.inl rfl) (Fl.least_lt o1 o2)
        rw [Fl.canon_least] at c2
        have C1 := Lib.hid c1
        have C2 := Lib.hid c2
        clear c1 c2 k1 o1 o2
        go_wp2_with fail
        refine (C1.out _).mono ?_
        rintro e w3 ⟨rfl, hb3⟩
        go_wp2_with fail
        refine (C2.out _).mono ?_
        rintro e w4 ⟨rfl, hb4⟩
        have hb5 := bel_call hb3 hb4
        obtain ⟨hc, hf⟩ := bcell hb5
        go_wp2_with fail
        refine bodyPost_ret (v := .agg #[.bool true, .int .u64 (least ab bb)]) (by simp only [results, Tryd.results16]; go_simp) rfl ?_
        exact ⟨by rw [HM.out]; rfl, (by repeat' (first | with_reducible exact Below.refl _ _ | with_reducible assumption | with_reducible refine bel_drew ?_ | with_reducible refine bel_alloc ?_ _ | with_reducible refine bel_set ?_ ?_ _ | with_reducible refine bel_call ?_ (by assumption) | (dsimp only; omega) | (simp; done) | (simp; omega)))⟩
      · by_cases h4 : k = 4
        · subst h4
          have c1 := fun w => most_any ab bb w o1 o2
          have c2 := fun w => of_fl 4 (most ab bb) w (.inr rfl) (Fl.most_lt o1 o2)
          rw [Fl.canon_most] at c2
          have C1 := Lib.hid c1
          have C2 := Lib.hid c2
          clear c1 c2 k1 o1 o2 h3
          go_wp2_with fail
          refine (C1.out _).mono ?_
          rintro e w3 ⟨rfl, hb3⟩
          go_wp2_with fail
          refine (C2.out _).mono ?_
          rintro e w4 ⟨rfl, hb4⟩
          have hb5 := bel_call hb3 hb4
          obtain ⟨hc, hf⟩ := bcell hb5
          go_wp2_with fail
          refine bodyPost_ret (v := .agg #[.bool true, .int .u64 (most ab bb)]) (by simp only [results, Tryd.results16]; go_simp) rfl ?_
          exact ⟨by rw [HM.out]; rfl, (by repeat' (first | with_reducible exact Below.refl _ _ | with_reducible assumption | with_reducible refine bel_drew ?_ | with_reducible refine bel_alloc ?_ _ | with_reducible refine bel_set ?_ ?_ _ | with_reducible refine bel_call ?_ (by assumption) | (dsimp only; omega) | (simp; done) | (simp; omega)))⟩
        · have j3 : (k == 3) = false := by simp; omega
          have j4 : (k == 4) = false := by simp; omega
          have hm2 : m = ⟨true, (ab + bb) % 2 ^ 64⟩ := by rw [HM.out]; simp [mergeF, h3, h4]
          have HM2 := Lib.hid hm2
          have C1 := Lib.hid some_any
          clear HM hm2 h3 h4 k1 o1 o2
          go_wp2_with fail
          refine (C1.out _ _).mono ?_
          rintro e w3 ⟨rfl, hb3⟩
          obtain ⟨hc, hf⟩ := bcell hb3
          go_wp2_with fail
          refine bodyPost_ret (v := .agg #[.bool true, .int .u64 ((ab + bb) % 2 ^ 64 : Nat)]) (by simp only [results, Tryd.results16]; go_simp; exact IntKind.wrap_u64 _) rfl ?_
          exact ⟨by rw [HM2.out], (by repeat' (first | with_reducible exact Below.refl _ _ | with_reducible assumption | with_reducible refine bel_drew ?_ | with_reducible refine bel_alloc ?_ _ | with_reducible refine bel_set ?_ ?_ _ | with_reducible refine bel_call ?_ (by assumption) | (dsimp only; omega) | (simp; done) | (simp; omega)))⟩
end Go.Proofs.YtelofaceadlfmaaDoor
