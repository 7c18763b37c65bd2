/- WALKS of ops: Check, Run, Key, One. -/
import Derived.Test.YtbckfoldjlgabaaOpsD
namespace Go.Proofs.Ytbckfoldjlgabaa
open Go.RowKit
open Fl (nan key canon)
theorem allStp_false {f : Nat → Stp} : ∀ {n i j : Nat}, i ≤ j → j < i + n → isStp (f j) = false → allStp f n i = false
  | 0, i, j, h1, h2, _ => by omega
  | n + 1, i, j, h1, h2, h => by
    unfold allStp
    by_cases e : i = j
    · subst e; rw [h]; rfl
    · rw [allStp_false (n := n) (i := i + 1) (j := j) (by omega) (by omega) h, Bool.and_false]
theorem allStp_true {f : Nat → Stp} : ∀ {n i : Nat}, (∀ j, i ≤ j → j < i + n → isStp (f j) = true) → allStp f n i = true
  | 0, _, _ => rfl
  | n + 1, i, h => by
    unfold allStp
    rw [h i (Nat.le_refl _) (by omega), allStp_true (n := n) (i := i + 1) (fun j h1 h2 => h j (by omega) (by omega))]
    rfl
theorem allStp_of {f : Nat → Stp} : ∀ {n i j : Nat}, allStp f n i = true → i ≤ j → j < i + n → isStp (f j) = true
  | 0, i, j, _, h1, h2 => by omega
  | n + 1, i, j, h, h1, h2 => by
    unfold allStp at h
    rw [Bool.and_eq_true] at h
    by_cases e : i = j
    · subst e; exact h.1
    · exact allStp_of (n := n) (i := i + 1) h.2 (by omega) (by omega)
theorem chk_ok {f : Nat → Stp} {len : Nat} (h : chk f len = 0) : len ≤ 8 ∧ ∀ i, i < len → isStp (f i) = true := by
  unfold chk at h
  split at h
  · cases h
  · split at h
    · rename_i h1 h2
      exact ⟨by omega, fun i hi => allStp_of h2 (Nat.zero_le _) (by omega)⟩
    · cases h
set_option maxRecDepth 100000 in
set_option maxHeartbeats 4000000 in
theorem check_any (a : Option Addr) (len cap rb ro : Nat) (f : Nat → Stp) (w : World) (hln : len ≤ 9223372036854775807) (ha : 0 < len → a = some ⟨rb, ro, none⟩) (hr : 0 < len → Stps w rb ro len f) :
    Calls Try.prog 50 #[.slice a len cap] w fun e w' => e = .returned (.int .i64 (chk f len)) ∧ Below w.heap.size w w' := by
  have CI := Lib.hid isStep_any
  have HA := Lib.hid ha
  have HR := Lib.hid hr
  have HL := Lib.hid hln
  unfold chk
  by_cases h8 : 8 < len
  · rw [if_pos h8]
    have h8' : (8 : Int) < (len : Int) := by omega
    clear ha hr hln
    go_enter Try.func50, Try.ntmps50
    go_wp2_with fail
    go_ret
    exact ⟨rfl, (by repeat' (first | with_reducible exact Below.refl _ _ | with_reducible assumption | with_reducible refine bel_drew ?_ | with_reducible refine bel_alloc ?_ _ | with_reducible refine bel_set ?_ ?_ _ | with_reducible refine bel_call ?_ (by assumption) | (dsimp only; omega) | (simp; done) | (simp; omega)))⟩
  · rw [if_neg h8]
    have h8' : ¬ (8 : Int) < (len : Int) := by omega
    have hbad : ∀ i, i < len → isStp (f i) = false → allStp f len 0 = false := fun i h1 h2 => allStp_false (Nat.zero_le i) (by omega) h2
    have hall : (∀ j, j < len → isStp (f j) = true) → allStp f len 0 = true := fun h => allStp_true (fun j _ h2 => h j (by omega))
    have HB := Lib.hid hbad
    have HAll := Lib.hid hall
    clear ha hr hln hbad hall
    generalize allStp f len 0 = G at *
    go_enter Try.func50, Try.ntmps50
    go_wp2_with fail
    go_loopg [10] len (fun g s10 wr => ∃ (i : Nat), i ≤ len ∧ g = len - i ∧ s10 = .int .i64 i ∧ Below w.heap.size w wr ∧ ∀ j, j < i → isStp (f j) = true)
    case atStart => exact ⟨0, Nat.zero_le _, rfl, rfl, (by repeat' (first | with_reducible exact Below.refl _ _ | with_reducible assumption | with_reducible refine bel_drew ?_ | with_reducible refine bel_alloc ?_ _ | with_reducible refine bel_set ?_ ?_ _ | with_reducible refine bel_call ?_ (by assumption) | (dsimp only; omega) | (simp; done) | (simp; omega))), fun j h => absurd h (Nat.not_lt_zero j)⟩
    case round =>
      obtain ⟨i, hi, rfl, rfl, p, hq⟩ := hrel
      have HQ := Lib.hid hq
      clear hq
      by_cases hlt : i < len
      · obtain rfl := HA.out (by omega)
        have hr := HR.out (by omega)
        have hz2 : (i : Int) < (len : Int) := by omega
        have hw1 : IntKind.i64.wrap ((i : Int) + 1) = (i : Int) + 1 := Go.IntWalk.i64_in _ (by have := HL.out; omega)
        have rz : rb < wr.heap.size := Nat.lt_of_lt_of_le hr.lt p.size
        have x0 : wr.cell? ⟨rb, ro + i * 3, none⟩ = some (.int .i64 (f i).kind) := (p.cell (p := ⟨rb, ro + (i * 3 + 0), none⟩) hr.lt).trans (hr.c0 i hlt)
        have x1 : wr.cell? ⟨rb, ro + i * 3 + 1, none⟩ = some (.int .i64 (f i).n) := (p.cell (p := ⟨rb, ro + (i * 3 + 1), none⟩) hr.lt).trans (hr.c1 i hlt)
        have x2 : wr.cell? ⟨rb, ro + i * 3 + 2, none⟩ = some (.float .f64 (f i).x) := (p.cell (p := ⟨rb, ro + (i * 3 + 2), none⟩) hr.lt).trans (hr.c2 i hlt)
        have hB := HB.out i hlt
        have hQ : isStp (f i) = true → ∀ j, j < i + 1 → isStp (f j) = true := fun h j hj => by
          rcases Nat.lt_or_eq_of_le (Nat.le_of_lt_succ hj) with h1 | h1
          · exact HQ.out j h1
          · rw [h1]; exact h
        have c1 := fun w => CI.out (f i) w
        clear hr
        cases hs : isStp (f i) with
        | true =>
          rw [hs] at c1
          have C1 := Lib.hid c1
          have HQ2 := Lib.hid (hQ hs)
          clear hB hs hQ c1 CI
          generalize f i = o at *
          obtain ⟨kd, n, y⟩ := o
          dsimp only at *
          go_wp2_with fail
          refine (C1.out _).mono ?_
          rintro e w1 ⟨rfl, hb⟩
          have p1 : Below w.heap.size w w1 := (by repeat' (first | with_reducible exact Below.refl _ _ | with_reducible assumption | with_reducible refine bel_drew ?_ | with_reducible refine bel_alloc ?_ _ | with_reducible refine bel_set ?_ ?_ _ | with_reducible refine bel_call ?_ (by assumption) | (dsimp only; omega) | (simp; done) | (simp; omega)))
          clear hb x0 x1 x2 p rz
          go_wp2_with fail
          go_roundg (len - (i + 1))
          case measure => omega
          case rel => exact ⟨i + 1, hlt, rfl, (by first | rfl | simp), (by repeat' (first | with_reducible exact Below.refl _ _ | with_reducible assumption | with_reducible refine bel_drew ?_ | with_reducible refine bel_alloc ?_ _ | with_reducible refine bel_set ?_ ?_ _ | with_reducible refine bel_call ?_ (by assumption) | (dsimp only; omega) | (simp; done) | (simp; omega))), HQ2.out⟩
        | false =>
          rw [hs] at c1
          have C1 := Lib.hid c1
          obtain rfl := hB hs
          clear hB hs hQ c1 CI
          generalize f i = o at *
          obtain ⟨kd, n, y⟩ := o
          dsimp only at *
          go_wp2_with fail
          refine (C1.out _).mono ?_
          rintro e w1 ⟨rfl, hb⟩
          have p1 : Below w.heap.size w w1 := (by repeat' (first | with_reducible exact Below.refl _ _ | with_reducible assumption | with_reducible refine bel_drew ?_ | with_reducible refine bel_alloc ?_ _ | with_reducible refine bel_set ?_ ?_ _ | with_reducible refine bel_call ?_ (by assumption) | (dsimp only; omega) | (simp; done) | (simp; omega)))
          clear hb x0 x1 x2 p rz
          go_wp2_with fail
          go_ret
          exact ⟨rfl, (by repeat' (first | with_reducible exact Below.refl _ _ | with_reducible assumption | with_reducible refine bel_drew ?_ | with_reducible refine bel_alloc ?_ _ | with_reducible refine bel_set ?_ ?_ _ | with_reducible refine bel_call ?_ (by assumption) | (dsimp only; omega) | (simp; done) | (simp; omega)))⟩
      · have hz2 : ¬ (i : Int) < (len : Int) := by omega
        obtain rfl : i = len := by omega
        obtain rfl := HAll.out HQ.out
        go_wp2_with fail
        go_ret
        exact ⟨rfl, (by repeat' (first | with_reducible exact Below.refl _ _ | with_reducible assumption | with_reducible refine bel_drew ?_ | with_reducible refine bel_alloc ?_ _ | with_reducible refine bel_set ?_ ?_ _ | with_reducible refine bel_call ?_ (by assumption) | (dsimp only; omega) | (simp; done) | (simp; omega)))⟩
set_option maxRecDepth 100000 in
set_option maxHeartbeats 1000000 in
theorem run_any (a : Option Addr) (len cap rb ro : Nat) (f : Nat → Stp) (r : Rc) (w : World) (hln : len ≤ 9223372036854775807) (ha : 0 < len → a = some ⟨rb, ro, none⟩) (hr : 0 < len → Stps w rb ro len f) (hok : r.ok) (T : Rc × Int) (hT : runOps f len r = T) :
    Calls Try.prog 67 #[.slice a len cap, .agg #[.int .u64 r.key, .float .f64 r.val]] w fun e w' => e = .returned (.tuple #[.agg #[.int .u64 T.1.key, .float .f64 T.1.val], .int .i64 T.2]) ∧ Below w.heap.size w w' := by
  have HR := Lib.hid hr
  have C1 : Hid (∀ w2, Below w.heap.size w w2 → Calls Try.prog 50 #[.slice a len cap] w2 fun e w' => e = .returned (.int .i64 (chk f len)) ∧ Below w2.heap.size w2 w') := Lib.hid (fun w2 hb => check_any a len cap rb ro f w2 hln ha (fun h => (HR.out h).keep hb (HR.out h).lt hb.size))
  by_cases hc : chk f len = 0
  · have C2 : Hid (∀ w2, Below w.heap.size w w2 → Calls Try.prog 70 #[.slice a len cap, .agg #[.int .u64 r.key, .float .f64 r.val]] w2 fun e w' => e = .returned (.tuple #[.agg #[.int .u64 T.1.key, .float .f64 T.1.val], .int .i64 T.2]) ∧ Below w2.heap.size w2 w') :=
      Lib.hid (fun w2 hb => through_any a len cap rb ro f r w2 hln ha (fun h => (HR.out h).keep hb (HR.out h).lt hb.size) (chk_ok hc).2 hok T (by unfold runOps at hT; rw [if_pos hc] at hT; exact hT))
    rw [hc] at C1
    clear hr hln ha hok hT HR hc
    go_enter Try.func67, Try.ntmps67
    go_wp2_with fail
    refine (C1.out _ (by repeat' (first | with_reducible exact Below.refl _ _ | with_reducible assumption | with_reducible refine bel_drew ?_ | with_reducible refine bel_alloc ?_ _ | with_reducible refine bel_set ?_ ?_ _ | with_reducible refine bel_call ?_ (by assumption) | (dsimp only; omega) | (simp; done) | (simp; omega)))).mono ?_
    rintro e w1 ⟨rfl, hb⟩
    have q1 : Blk w1 w.heap.size [.int .u64 r.key, .float .f64 r.val] 66 := Blk.below (by repeat' (first | with_reducible assumption | (show (_ : List Value) = _; rfl) | with_reducible exact Blk.new _ _ rfl | (with_reducible refine Blk.new _ _ ?_; simp; done) | with_reducible apply Blk.set_eq | with_reducible apply Blk.other | with_reducible apply Blk.alloc | with_reducible apply Blk.drew | (simp; done) | (simp; omega))) hb
    have q2 : Blk w1 (w.heap.size + 1) [.int .u64 0, .float .f64 0] 66 := Blk.below (by repeat' (first | with_reducible assumption | (show (_ : List Value) = _; rfl) | with_reducible exact Blk.new _ _ rfl | (with_reducible refine Blk.new _ _ ?_; simp; done) | with_reducible apply Blk.set_eq | with_reducible apply Blk.other | with_reducible apply Blk.alloc | with_reducible apply Blk.drew | (simp; done) | (simp; omega))) hb
    have p1 : Below w.heap.size w w1 := (by repeat' (first | with_reducible exact Below.refl _ _ | with_reducible assumption | with_reducible refine bel_drew ?_ | with_reducible refine bel_alloc ?_ _ | with_reducible refine bel_set ?_ ?_ _ | with_reducible refine bel_call ?_ (by assumption) | (dsimp only; omega) | (simp; done) | (simp; omega)))
    clear hb
    have q1c0 : w1.cell? ⟨w.heap.size, 0, none⟩ = some (.int .u64 r.key) := q1.cell 0; have q1c1 : w1.cell? ⟨w.heap.size, 1, none⟩ = some (.float .f64 r.val) := q1.cell 1; have q1z := q1.lt
    go_wp2_with fail
    refine (C2.out _ (by repeat' (first | with_reducible exact Below.refl _ _ | with_reducible assumption | with_reducible refine bel_drew ?_ | with_reducible refine bel_alloc ?_ _ | with_reducible refine bel_set ?_ ?_ _ | with_reducible refine bel_call ?_ (by assumption) | (dsimp only; omega) | (simp; done) | (simp; omega)))).mono ?_
    rintro e w2 ⟨rfl, hb⟩
    have r2 := Blk.below q2 hb
    have p2 : Below w.heap.size w w2 := (by repeat' (first | with_reducible exact Below.refl _ _ | with_reducible assumption | with_reducible refine bel_drew ?_ | with_reducible refine bel_alloc ?_ _ | with_reducible refine bel_set ?_ ?_ _ | with_reducible refine bel_call ?_ (by assumption) | (dsimp only; omega) | (simp; done) | (simp; omega)))
    clear hb q1 q2 q1c0 q1c1 q1z
    have r2c0 : w2.cell? ⟨(w.heap.size + 1), 0, none⟩ = some (.int .u64 0) := r2.cell 0; have r2c1 : w2.cell? ⟨(w.heap.size + 1), 1, none⟩ = some (.float .f64 0) := r2.cell 1; have r2z := r2.lt
    have r2f0 := r2.free 0
    have r2f1 := r2.free 1
    go_wp2_with fail
    refine ret_cell_tmp [.int .u64 T.1.key, .float .f64 T.1.val] Try.results67 rfl (Try.isAgg66 _) (Try.sizeOf66 _) (t := 66) ?_ rfl ?_; next => (exact (by repeat' (first | with_reducible assumption | (show (_ : List Value) = _; rfl) | with_reducible exact Blk.new _ _ rfl | (with_reducible refine Blk.new _ _ ?_; simp; done) | with_reducible apply Blk.set_eq | with_reducible apply Blk.other | with_reducible apply Blk.alloc | with_reducible apply Blk.drew | (simp; done) | (simp; omega))))
    exact ⟨rfl, (by repeat' (first | with_reducible exact Below.refl _ _ | with_reducible assumption | with_reducible refine bel_drew ?_ | with_reducible refine bel_alloc ?_ _ | with_reducible refine bel_set ?_ ?_ _ | with_reducible refine bel_call ?_ (by assumption) | (dsimp only; omega) | (simp; done) | (simp; omega)))⟩
  · have hT2 : (⟨0, 0⟩, 0) = T := by unfold runOps at hT; rw [if_neg hc] at hT; exact hT
    subst hT2
    have hc2 : (chk f len != 0) = true := by simpa using hc
    generalize chk f len = c at *
    clear hr hln ha hok hT HR hc
    go_enter Try.func67, Try.ntmps67
    go_wp2_with fail
    refine (C1.out _ (by repeat' (first | with_reducible exact Below.refl _ _ | with_reducible assumption | with_reducible refine bel_drew ?_ | with_reducible refine bel_alloc ?_ _ | with_reducible refine bel_set ?_ ?_ _ | with_reducible refine bel_call ?_ (by assumption) | (dsimp only; omega) | (simp; done) | (simp; omega)))).mono ?_
    rintro e w1 ⟨rfl, hb⟩
    have q2 : Blk w1 (w.heap.size + 1) [.int .u64 0, .float .f64 0] 66 := Blk.below (by repeat' (first | with_reducible assumption | (show (_ : List Value) = _; rfl) | with_reducible exact Blk.new _ _ rfl | (with_reducible refine Blk.new _ _ ?_; simp; done) | with_reducible apply Blk.set_eq | with_reducible apply Blk.other | with_reducible apply Blk.alloc | with_reducible apply Blk.drew | (simp; done) | (simp; omega))) hb
    have p1 : Below w.heap.size w w1 := (by repeat' (first | with_reducible exact Below.refl _ _ | with_reducible assumption | with_reducible refine bel_drew ?_ | with_reducible refine bel_alloc ?_ _ | with_reducible refine bel_set ?_ ?_ _ | with_reducible refine bel_call ?_ (by assumption) | (dsimp only; omega) | (simp; done) | (simp; omega)))
    clear hb
    have q2c0 : w1.cell? ⟨(w.heap.size + 1), 0, none⟩ = some (.int .u64 0) := q2.cell 0; have q2c1 : w1.cell? ⟨(w.heap.size + 1), 1, none⟩ = some (.float .f64 0) := q2.cell 1; have q2z := q2.lt
    have q2f0 := q2.free 0
    have q2f1 := q2.free 1
    go_wp2_with fail
    refine ret_cell_tmp [.int .u64 0, .float .f64 0] Try.results67 rfl (Try.isAgg66 _) (Try.sizeOf66 _) (t := 66) ?_ rfl ?_; next => (exact (by repeat' (first | with_reducible assumption | (show (_ : List Value) = _; rfl) | with_reducible exact Blk.new _ _ rfl | (with_reducible refine Blk.new _ _ ?_; simp; done) | with_reducible apply Blk.set_eq | with_reducible apply Blk.other | with_reducible apply Blk.alloc | with_reducible apply Blk.drew | (simp; done) | (simp; omega))))
    exact ⟨rfl, (by repeat' (first | with_reducible exact Below.refl _ _ | with_reducible assumption | with_reducible refine bel_drew ?_ | with_reducible refine bel_alloc ?_ _ | with_reducible refine bel_set ?_ ?_ _ | with_reducible refine bel_call ?_ (by assumption) | (dsimp only; omega) | (simp; done) | (simp; omega)))⟩
end Go.Proofs.Ytbckfoldjlgabaa
