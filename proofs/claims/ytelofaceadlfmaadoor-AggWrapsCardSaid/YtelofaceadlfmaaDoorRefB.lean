/- WALKS of the reference for aggregates: Known, Of (least and most), Fit, Merge. -/
import Derived.Test.YtelofaceadlfmaaDoorRefA
import Derived.Test.YtelofaceadlfmaaDoorAggA
namespace Go.Proofs.YtelofaceadlfmaaDoor
open Go.RowKit
open Fl (nan key canon ord least most known fit merge mergeF V)

set_option maxHeartbeats 400000 in
theorem rknown_any (k : Int) (w : World) :
    Calls Tryd.prog 11 #[.int .i64 k] w fun e w' => e = .returned (.bool (known k)) ∧ w = w' := by
  unfold known
  by_cases h1 : 1 ≤ k <;> by_cases h2 : k ≤ 4 <;> simp only [h1, h2, decide_true, decide_false, Bool.and_self, Bool.and_false, Bool.false_and]
  all_goals
    go_enter Tryd.func11, Tryd.ntmps11
    go_wp2
    go_ret
    exact ⟨rfl, rfl⟩

set_option maxHeartbeats 400000 in
theorem rof_fl (k : Int) (b : Nat) (w : World) (hk : k = 3 ∨ k = 4) (hb : b < 2 ^ 64) :
    Calls Tryd.prog 13 #[.int .i64 k, .float .f64 b] w fun e w' => e = .returned (.agg #[.bool true, .int .u64 (canon b)]) ∧ Below w.heap.size w w' := by
  have c1 := fun w => rcanon_any b w hb
  have C1 := Lib.hid c1
  have C2 := Lib.hid rbits_any
  clear c1 hb
  rcases hk with rfl | rfl
  all_goals
    go_enter Tryd.func13, Tryd.ntmps13
    go_wp2_with fail
    refine (C1.out _).mono ?_
    rintro e w' ⟨rfl, rfl⟩
    go_wp2_with fail
    refine (C2.out _ _).mono ?_
    rintro e w' ⟨rfl, rfl⟩
    go_wp2_with fail
    refine bodyPost_ret (v := .agg #[.bool true, .int .u64 (canon b)]) (by simp only [results, Tryd.results13]; go_simp) rfl ?_
    exact ⟨rfl, (by repeat' (first | with_reducible exact Below.refl _ _ | with_reducible assumption | with_reducible refine bel_drew ?_ | with_reducible refine bel_alloc ?_ _ | with_reducible refine bel_set ?_ ?_ _ | with_reducible refine bel_call ?_ (by assumption) | (dsimp only; omega) | (simp; done) | (simp; omega)))⟩

set_option maxHeartbeats 400000 in
theorem rfit_any (k : Int) (x : V) (w : World) (hx : x.ok) :
    Calls Tryd.prog 15 #[.int .i64 k, .agg #[.bool x.has, .int .u64 x.bits]] w fun e w' => e = .returned (.agg #[.bool (fit k x).has, .int .u64 (fit k x).bits]) ∧ Below w.heap.size w w' := by
  obtain ⟨h, b⟩ := x
  have hb : b < 2 ^ 64 := hx
  have c1 := rknown_any k
  have hkk := known_iff k
  unfold fit
  cases hk : known k <;> rw [hk] at c1 <;> have C1 := Lib.hid c1 <;> clear c1
  · simp only [Bool.false_and, Bool.false_eq_true, if_false, V.none]
    clear hx hb hk hkk
    go_enter Tryd.func15, Tryd.ntmps15
    go_wp2_with fail
    refine (C1.out _).mono ?_
    rintro e w' ⟨rfl, rfl⟩
    go_wp2_with fail
    refine bodyPost_ret (v := .agg #[.bool false, .int .u64 0]) (by simp only [results, Tryd.results15]; go_simp) rfl ?_
    exact ⟨rfl, (by repeat' (first | with_reducible exact Below.refl _ _ | with_reducible assumption | with_reducible refine bel_drew ?_ | with_reducible refine bel_alloc ?_ _ | with_reducible refine bel_set ?_ ?_ _ | with_reducible refine bel_call ?_ (by assumption) | (dsimp only; omega) | (simp; done) | (simp; omega)))⟩
  · cases h
    · simp only [Bool.and_false, Bool.false_eq_true, if_false, V.none]
      clear hx hb hk hkk
      go_enter Tryd.func15, Tryd.ntmps15
      go_wp2_with fail
      refine (C1.out _).mono ?_
      rintro e w' ⟨rfl, rfl⟩
      go_wp2_with fail
      refine bodyPost_ret (v := .agg #[.bool false, .int .u64 0]) (by simp only [results, Tryd.results15]; go_simp) rfl ?_
      exact ⟨rfl, (by repeat' (first | with_reducible exact Below.refl _ _ | with_reducible assumption | with_reducible refine bel_drew ?_ | with_reducible refine bel_alloc ?_ _ | with_reducible refine bel_set ?_ ?_ _ | with_reducible refine bel_call ?_ (by assumption) | (dsimp only; omega) | (simp; done) | (simp; omega)))⟩
    · simp only [Bool.and_self, if_true]
      have h14 := hkk.1 hk
      by_cases h34 : k = 3 ∨ k = 4
      · simp only [h34, if_true]
        have c2 := fun w => rof_fl k b w h34 hb
        have c3 := rfrom_any b
        have C2 := Lib.hid c2
        have C3 := Lib.hid c3
        clear c2 c3 hx hb hk hkk h14
        rcases h34 with rfl | rfl
        all_goals
          go_enter Tryd.func15, Tryd.ntmps15
          go_wp2_with fail
          refine (C1.out _).mono ?_
          rintro e w' ⟨rfl, rfl⟩
          go_wp2_with fail
          refine (C3.out _).mono ?_
          rintro e w' ⟨rfl, rfl⟩
          go_wp2_with fail
          refine (C2.out _).mono ?_
          rintro e w1 ⟨rfl, hb1⟩
          obtain ⟨hc, hf⟩ := bcell hb1
          go_wp2_with fail
          refine bodyPost_ret (v := .agg #[.bool true, .int .u64 (canon b)]) (by simp only [results, Tryd.results15]; go_simp) rfl ?_
          exact ⟨rfl, (by repeat' (first | with_reducible exact Below.refl _ _ | with_reducible assumption | with_reducible refine bel_drew ?_ | with_reducible refine bel_alloc ?_ _ | with_reducible refine bel_set ?_ ?_ _ | with_reducible refine bel_call ?_ (by assumption) | (dsimp only; omega) | (simp; done) | (simp; omega)))⟩
      · simp only [h34, if_false]
        have h3 : k ≤ 2 := by omega
        clear hx hb hk h34 hkk h14
        go_enter Tryd.func15, Tryd.ntmps15
        go_wp2_with fail
        refine (C1.out _).mono ?_
        rintro e w' ⟨rfl, rfl⟩
        go_wp2_with fail
        refine bodyPost_ret (v := .agg #[.bool true, .int .u64 b]) (by simp only [results, Tryd.results15]; go_simp) rfl ?_
        exact ⟨rfl, (by repeat' (first | with_reducible exact Below.refl _ _ | with_reducible assumption | with_reducible refine bel_drew ?_ | with_reducible refine bel_alloc ?_ _ | with_reducible refine bel_set ?_ ?_ _ | with_reducible refine bel_call ?_ (by assumption) | (dsimp only; omega) | (simp; done) | (simp; omega)))⟩

set_option maxHeartbeats 1000000 in
theorem rmerge_any (k : Int) (x y : V) (w : World) (hx : x.ok) (hy : y.ok) :
    Calls Tryd.prog 17 #[.int .i64 k, .agg #[.bool x.has, .int .u64 x.bits], .agg #[.bool y.has, .int .u64 y.bits]] w
      fun e w' => e = .returned (.agg #[.bool (merge k x y).has, .int .u64 (merge k x y).bits]) ∧ Below w.heap.size w w' := by
  have c1 := fun w => rfit_any k x w hx
  have c2 := fun w => rfit_any k y w hy
  have o1 := Fl.fit_ok (k := k) hx
  have o2 := Fl.fit_ok (k := k) hy
  have hm : merge k x y = mergeF k (fit k x) (fit k y) := rfl
  generalize merge k x y = m at *
  generalize fit k x = fx at *
  generalize fit k y = fy at *
  have HM := Lib.hid hm
  clear hm hx hy
  have C1 := Lib.hid c1
  have C2 := Lib.hid c2
  have C3 := Lib.hid rfrom_any
  clear c1 c2
  obtain ⟨ah, ab⟩ := fx
  obtain ⟨bh, bb⟩ := fy
  go_enter Tryd.func17, Tryd.ntmps17
  go_wp2_with fail
  refine (C1.out _).mono ?_
  rintro e w1 ⟨rfl, hb1⟩
  obtain ⟨hc, hf⟩ := bcell hb1
  have z1 : w.heap.size + 1 + 1 < w1.heap.size := by have := hb1.size; simp at this; omega
  have y1 : w.heap.size + 1 < w1.heap.size := by omega
  have x1 : w.heap.size < w1.heap.size := by omega
  go_wp2_with fail
  refine (C2.out _).mono ?_
  rintro e w2 ⟨rfl, hb2⟩
  have p2 : Below w.heap.size w w2 := (by repeat' (first | with_reducible exact Below.refl _ _ | with_reducible assumption | with_reducible refine bel_drew ?_ | with_reducible refine bel_alloc ?_ _ | with_reducible refine bel_set ?_ ?_ _ | with_reducible refine bel_call ?_ (by assumption) | (dsimp only; omega) | (simp; done) | (simp; omega)))
  have q0 : Blk w2 w.heap.size [.bool ah, .int .u64 ab] 27 := ((((((Blk.new [.bool x.has, .int .u64 x.bits] _ rfl).alloc _).alloc _).below hb1).set 0 _).set 1 _).below hb2
  have q1 : Blk w2 (w.heap.size + 1) [.bool y.has, .int .u64 y.bits] 27 := (((((Blk.new _ _ (by simp)).alloc _).below hb1).other (by simp) _).other (by simp) _).below hb2
  have q2 : Blk w2 (w.heap.size + 1 + 1) [.bool false, .int .u64 0] 27 := ((((Blk.new _ _ (by simp)).below hb1).other (by simp; omega) _).other (by simp; omega) _).below hb2
  clear C1 C2
  have e0 : w2.cell? ⟨w.heap.size, 0, none⟩ = some (.bool ah) := q0.cell 0
  have e1 : w2.cell? ⟨w.heap.size, 1, none⟩ = some (.int .u64 ab) := q0.cell 1
  have e2 : w2.cell? ⟨w.heap.size + 1, 0, none⟩ = some (.bool y.has) := q1.cell 0
  have e3 : w2.cell? ⟨w.heap.size + 1, 1, none⟩ = some (.int .u64 y.bits) := q1.cell 1
  have e4 : w2.cell? ⟨w.heap.size + 1 + 1, 0, none⟩ = some (.bool false) := q2.cell 0
  have e5 : w2.cell? ⟨w.heap.size + 1 + 1, 1, none⟩ = some (.int .u64 0) := q2.cell 1
  have g2 := q1.free 0
  have g3 := q1.free 1
  have g4 := q2.free 0
  have g5 := q2.free 1
  have z2 := q2.lt
  have y2 := q1.lt
  have x2 := q0.lt
  clear q0 q1 q2 hc hf z1 y1 x1 hb1 hb2
  cases ah
  · clear o1 o2
    go_wp2_with fail
    refine bodyPost_ret (v := .agg #[.bool bh, .int .u64 bb]) (by simp only [results, Tryd.results17]; go_simp) rfl ?_
    exact ⟨by rw [HM.out]; rfl, (by repeat' (first | with_reducible exact Below.refl _ _ | with_reducible assumption | with_reducible refine bel_drew ?_ | with_reducible refine bel_alloc ?_ _ | with_reducible refine bel_set ?_ ?_ _ | with_reducible refine bel_call ?_ (by assumption) | (dsimp only; omega) | (simp; done) | (simp; omega)))⟩
  · cases bh
    · clear o1 o2
      go_wp2_with fail
      refine bodyPost_ret (v := .agg #[.bool true, .int .u64 ab]) (by simp only [results, Tryd.results17]; go_simp) rfl ?_
      exact ⟨by rw [HM.out]; rfl, (by repeat' (first | with_reducible exact Below.refl _ _ | with_reducible assumption | with_reducible refine bel_drew ?_ | with_reducible refine bel_alloc ?_ _ | with_reducible refine bel_set ?_ ?_ _ | with_reducible refine bel_call ?_ (by assumption) | (dsimp only; omega) | (simp; done) | (simp; omega)))⟩
    · by_cases h3 : k = 3
      · subst h3
        have c1 := fun w => rleast_any ab bb w o1 o2
        have c2 := fun w => rof_fl 3 (least ab bb) w (.inl rfl) (Fl.least_lt o1 o2)
        rw [Fl.canon_least] at c2
        have C1 := Lib.hid c1
        have C2 := Lib.hid c2
        clear c1 c2 o1 o2
        go_wp2_with (go_at_call 29; refine (C3.out _ _).mono ?_; rintro e w' ⟨rfl, rfl⟩)
        refine (C1.out _).mono ?_
        rintro e w3 ⟨rfl, rfl⟩
        go_wp2_with fail
        refine (C2.out _).mono ?_
        rintro e w4 ⟨rfl, hb4⟩
        obtain ⟨hc, hf⟩ := bcell hb4
        go_wp2_with fail
        refine bodyPost_ret (v := .agg #[.bool true, .int .u64 (least ab bb)]) (by simp only [results, Tryd.results17]; go_simp) rfl ?_
        exact ⟨by rw [HM.out]; rfl, (by repeat' (first | with_reducible exact Below.refl _ _ | with_reducible assumption | with_reducible refine bel_drew ?_ | with_reducible refine bel_alloc ?_ _ | with_reducible refine bel_set ?_ ?_ _ | with_reducible refine bel_call ?_ (by assumption) | (dsimp only; omega) | (simp; done) | (simp; omega)))⟩
      · by_cases h4 : k = 4
        · subst h4
          have c1 := fun w => rmost_any ab bb w o1 o2
          have c2 := fun w => rof_fl 4 (most ab bb) w (.inr rfl) (Fl.most_lt o1 o2)
          rw [Fl.canon_most] at c2
          have C1 := Lib.hid c1
          have C2 := Lib.hid c2
          clear c1 c2 o1 o2 h3
          go_wp2_with (go_at_call 29; refine (C3.out _ _).mono ?_; rintro e w' ⟨rfl, rfl⟩)
          refine (C1.out _).mono ?_
          rintro e w3 ⟨rfl, rfl⟩
          go_wp2_with fail
          refine (C2.out _).mono ?_
          rintro e w4 ⟨rfl, hb4⟩
          obtain ⟨hc, hf⟩ := bcell hb4
          go_wp2_with fail
          refine bodyPost_ret (v := .agg #[.bool true, .int .u64 (most ab bb)]) (by simp only [results, Tryd.results17]; go_simp) rfl ?_
          exact ⟨by rw [HM.out]; rfl, (by repeat' (first | with_reducible exact Below.refl _ _ | with_reducible assumption | with_reducible refine bel_drew ?_ | with_reducible refine bel_alloc ?_ _ | with_reducible refine bel_set ?_ ?_ _ | with_reducible refine bel_call ?_ (by assumption) | (dsimp only; omega) | (simp; done) | (simp; omega)))⟩
        · have j3 : (k == 3) = false := by simp; omega
          have j4 : (k == 4) = false := by simp; omega
          have hm2 : m = ⟨true, (ab + bb) % 2 ^ 64⟩ := by rw [HM.out]; simp [mergeF, h3, h4]
          have HM2 := Lib.hid hm2
          clear HM hm2 h3 h4 o1 o2
          go_wp2_with (go_at_call 29; refine (C3.out _ _).mono ?_; rintro e w' ⟨rfl, rfl⟩)
          refine bodyPost_ret (v := .agg #[.bool true, .int .u64 ((ab + bb) % 2 ^ 64 : Nat)]) (by simp only [results, Tryd.results17]; go_simp; exact IntKind.wrap_u64 _) rfl ?_
          exact ⟨by rw [HM2.out], (by repeat' (first | with_reducible exact Below.refl _ _ | with_reducible assumption | with_reducible refine bel_drew ?_ | with_reducible refine bel_alloc ?_ _ | with_reducible refine bel_set ?_ ?_ _ | with_reducible refine bel_call ?_ (by assumption) | (dsimp only; omega) | (simp; done) | (simp; omega)))⟩
end Go.Proofs.YtelofaceadlfmaaDoor
