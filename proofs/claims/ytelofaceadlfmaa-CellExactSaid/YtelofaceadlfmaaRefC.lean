/- WALKS of the reference for cells. -/
import Derived.Test.YtelofaceadlfmaaCellPure
import Derived.Test.YtelofaceadlfmaaRefB
import Derived.Test.YtelofaceadlfmaaCellA
namespace Go.Proofs.Ytelofaceadlfmaa
open Go.RowKit
open Fl (known fit merge V Cl applyC applyE revertC resolveC emptyC fitC)

set_option maxHeartbeats 400000 in
theorem rrevert_any (c : Cl) (b : Int) (w : World) (hn : -9223372036854775808 ≤ c.batch ∧ c.batch ≤ 9223372036854775807) :
    Calls Try.prog 12 #[.agg #[.int .u64 c.key, .bool c.prev.has, .int .u64 c.prev.bits, .bool c.cur.has, .int .u64 c.cur.bits, .int .i64 c.batch], .int .i64 b] w
      fun e w' => e = .returned (.agg #[.int .u64 (revertC c b).key, .bool (revertC c b).prev.has, .int .u64 (revertC c b).prev.bits, .bool (revertC c b).cur.has, .int .u64 (revertC c b).cur.bits, .int .i64 (revertC c b).batch]) ∧ Below w.heap.size w w' := by
  unfold revertC
  obtain ⟨key, ⟨ph, pb⟩, ⟨ch, cb⟩, n⟩ := c
  dsimp only at *
  obtain ⟨n1, n2⟩ := hn
  by_cases h : b = n
  · subst h
    by_cases h1 : 1 ≤ b
    · rw [if_pos ⟨rfl, h1⟩]
      go_enter Try.func12, Try.ntmps12
      go_wp2
      refine ret_cell [.int .u64 key, .bool ph, .int .u64 pb, .bool ph, .int .u64 pb, .int .i64 (b - 1)] Try.results12 rfl (Try.isAgg26 _) (Try.sizeOf26 _) (t := 26) (by repeat' (first | with_reducible assumption | (show (_ : List Value) = _; rfl) | with_reducible exact Blk.new _ _ rfl | (with_reducible refine Blk.new _ _ ?_; simp; done) | with_reducible apply Blk.set_eq | with_reducible apply Blk.other | with_reducible apply Blk.alloc | (simp; done) | (simp; omega))) rfl ?_
      exact ⟨rfl, (by repeat' (first | with_reducible exact Below.refl _ _ | with_reducible assumption | with_reducible refine bel_drew ?_ | with_reducible refine bel_alloc ?_ _ | with_reducible refine bel_set ?_ ?_ _ | with_reducible refine bel_call ?_ (by assumption) | (dsimp only; omega) | (simp; done) | (simp; omega)))⟩
    · rw [if_neg (fun x => h1 x.2)]
      go_enter Try.func12, Try.ntmps12
      go_wp2
      refine ret_cell [.int .u64 key, .bool ph, .int .u64 pb, .bool ch, .int .u64 cb, .int .i64 b] Try.results12 rfl (Try.isAgg26 _) (Try.sizeOf26 _) (t := 26) (by repeat' (first | with_reducible assumption | (show (_ : List Value) = _; rfl) | with_reducible exact Blk.new _ _ rfl | (with_reducible refine Blk.new _ _ ?_; simp; done) | with_reducible apply Blk.set_eq | with_reducible apply Blk.other | with_reducible apply Blk.alloc | (simp; done) | (simp; omega))) rfl ?_
      exact ⟨rfl, (by repeat' (first | with_reducible exact Below.refl _ _ | with_reducible assumption | with_reducible refine bel_drew ?_ | with_reducible refine bel_alloc ?_ _ | with_reducible refine bel_set ?_ ?_ _ | with_reducible refine bel_call ?_ (by assumption) | (dsimp only; omega) | (simp; done) | (simp; omega)))⟩
  · rw [if_neg (fun x => h x.1)]
    have hb : (b != n) = true := by simpa using h
    clear h
    go_enter Try.func12, Try.ntmps12
    go_wp2
    refine ret_cell [.int .u64 key, .bool ph, .int .u64 pb, .bool ch, .int .u64 cb, .int .i64 n] Try.results12 rfl (Try.isAgg26 _) (Try.sizeOf26 _) (t := 26) (by repeat' (first | with_reducible assumption | (show (_ : List Value) = _; rfl) | with_reducible exact Blk.new _ _ rfl | (with_reducible refine Blk.new _ _ ?_; simp; done) | with_reducible apply Blk.set_eq | with_reducible apply Blk.other | with_reducible apply Blk.alloc | (simp; done) | (simp; omega))) rfl ?_
    exact ⟨rfl, (by repeat' (first | with_reducible exact Below.refl _ _ | with_reducible assumption | with_reducible refine bel_drew ?_ | with_reducible refine bel_alloc ?_ _ | with_reducible refine bel_set ?_ ?_ _ | with_reducible refine bel_call ?_ (by assumption) | (dsimp only; omega) | (simp; done) | (simp; omega)))⟩

set_option maxHeartbeats 400000 in
theorem rresolve_any (c : Cl) (m : Int) (w : World) :
    Calls Try.prog 18 #[.agg #[.int .u64 c.key, .bool c.prev.has, .int .u64 c.prev.bits, .bool c.cur.has, .int .u64 c.cur.bits, .int .i64 c.batch], .int .i64 m] w
      fun e w' => e = .returned (.agg #[.bool (resolveC c m).has, .int .u64 (resolveC c m).bits]) ∧ Below w.heap.size w w' := by
  unfold resolveC
  obtain ⟨key, ⟨ph, pb⟩, ⟨ch, cb⟩, n⟩ := c
  dsimp only at *
  by_cases h : m < n
  · rw [if_pos h]
    have h' : ¬ n ≤ m := by omega
    go_enter Try.func18, Try.ntmps18
    go_wp2
    refine bodyPost_ret (v := .agg #[.bool ph, .int .u64 pb]) (by simp only [results, Try.results18]; go_simp) rfl ?_
    exact ⟨rfl, (by repeat' (first | with_reducible exact Below.refl _ _ | with_reducible assumption | with_reducible refine bel_drew ?_ | with_reducible refine bel_alloc ?_ _ | with_reducible refine bel_set ?_ ?_ _ | with_reducible refine bel_call ?_ (by assumption) | (dsimp only; omega) | (simp; done) | (simp; omega)))⟩
  · rw [if_neg h]
    have h' : n ≤ m := by omega
    go_enter Try.func18, Try.ntmps18
    go_wp2
    refine bodyPost_ret (v := .agg #[.bool ch, .int .u64 cb]) (by simp only [results, Try.results18]; go_simp) rfl ?_
    exact ⟨rfl, (by repeat' (first | with_reducible exact Below.refl _ _ | with_reducible assumption | with_reducible refine bel_drew ?_ | with_reducible refine bel_alloc ?_ _ | with_reducible refine bel_set ?_ ?_ _ | with_reducible refine bel_call ?_ (by assumption) | (dsimp only; omega) | (simp; done) | (simp; omega)))⟩

set_option maxHeartbeats 400000 in
theorem rempty_any (c : Cl) (w : World) :
    Calls Try.prog 14 #[.agg #[.int .u64 c.key, .bool c.prev.has, .int .u64 c.prev.bits, .bool c.cur.has, .int .u64 c.cur.bits, .int .i64 c.batch]] w
      fun e w' => e = .returned (.bool (emptyC c)) ∧ Below w.heap.size w w' := by
  unfold emptyC
  obtain ⟨key, ⟨ph, pb⟩, ⟨ch, cb⟩, n⟩ := c
  dsimp only at *
  cases ph <;> cases ch
  all_goals
    go_enter Try.func14, Try.ntmps14
    go_wp2
    go_ret
    exact ⟨rfl, (by repeat' (first | with_reducible exact Below.refl _ _ | with_reducible assumption | with_reducible refine bel_drew ?_ | with_reducible refine bel_alloc ?_ _ | with_reducible refine bel_set ?_ ?_ _ | with_reducible refine bel_call ?_ (by assumption) | (dsimp only; omega) | (simp; done) | (simp; omega)))⟩

set_option maxHeartbeats 400000 in
theorem rapply_arg (k : Int) (key : Nat) (prev cur : V) (n b : Int) (p : V) (w : World) (h : known k = false ∨ b < 1) :
    Calls Try.prog 10 #[.int .i64 k, .agg #[.int .u64 key, .bool prev.has, .int .u64 prev.bits, .bool cur.has, .int .u64 cur.bits, .int .i64 n], .int .i64 b, .agg #[.bool p.has, .int .u64 p.bits]] w
      fun e w' => e = .returned (.tuple #[.agg #[.int .u64 0, .bool false, .int .u64 0, .bool false, .int .u64 0, .int .i64 0], .int .i64 1]) ∧ Below w.heap.size w w' := by
  have c1 := rknown_any k
  cases hk : known k
  · rw [hk] at c1
    have C1 := Lib.hid c1
    clear c1 hk h
    go_enter Try.func10, Try.ntmps10
    go_wp2_with (go_at_call 24; refine (C1.out _).mono ?_; rintro e w' ⟨rfl, rfl⟩)
    refine ret_cell_tmp [.int .u64 0, .bool false, .int .u64 0, .bool false, .int .u64 0, .int .i64 0] Try.results10 rfl (Try.isAgg26 _) (Try.sizeOf26 _) (t := 26) (by repeat' (first | with_reducible assumption | (show (_ : List Value) = _; rfl) | with_reducible exact Blk.new _ _ rfl | (with_reducible refine Blk.new _ _ ?_; simp; done) | with_reducible apply Blk.set_eq | with_reducible apply Blk.other | with_reducible apply Blk.alloc | (simp; done) | (simp; omega))) rfl ?_
    exact ⟨rfl, (by repeat' (first | with_reducible exact Below.refl _ _ | with_reducible assumption | with_reducible refine bel_drew ?_ | with_reducible refine bel_alloc ?_ _ | with_reducible refine bel_set ?_ ?_ _ | with_reducible refine bel_call ?_ (by assumption) | (dsimp only; omega) | (simp; done) | (simp; omega)))⟩
  · have h1 : b < 1 := by rw [hk] at h; simpa using h
    rw [hk] at c1
    have C1 := Lib.hid c1
    clear c1 hk h
    go_enter Try.func10, Try.ntmps10
    go_wp2_with (go_at_call 24; refine (C1.out _).mono ?_; rintro e w' ⟨rfl, rfl⟩)
    refine ret_cell_tmp [.int .u64 0, .bool false, .int .u64 0, .bool false, .int .u64 0, .int .i64 0] Try.results10 rfl (Try.isAgg26 _) (Try.sizeOf26 _) (t := 26) (by repeat' (first | with_reducible assumption | (show (_ : List Value) = _; rfl) | with_reducible exact Blk.new _ _ rfl | (with_reducible refine Blk.new _ _ ?_; simp; done) | with_reducible apply Blk.set_eq | with_reducible apply Blk.other | with_reducible apply Blk.alloc | (simp; done) | (simp; omega))) rfl ?_
    exact ⟨rfl, (by repeat' (first | with_reducible exact Below.refl _ _ | with_reducible assumption | with_reducible refine bel_drew ?_ | with_reducible refine bel_alloc ?_ _ | with_reducible refine bel_set ?_ ?_ _ | with_reducible refine bel_call ?_ (by assumption) | (dsimp only; omega) | (simp; done) | (simp; omega)))⟩
set_option maxHeartbeats 400000 in
theorem rapply_over (k : Int) (key : Nat) (prev cur : V) (n b : Int) (p : V) (w : World) (hk : known k = true) (h1 : ¬ b < 1) (h2 : b < n) :
    Calls Try.prog 10 #[.int .i64 k, .agg #[.int .u64 key, .bool prev.has, .int .u64 prev.bits, .bool cur.has, .int .u64 cur.bits, .int .i64 n], .int .i64 b, .agg #[.bool p.has, .int .u64 p.bits]] w
      fun e w' => e = .returned (.tuple #[.agg #[.int .u64 0, .bool false, .int .u64 0, .bool false, .int .u64 0, .int .i64 0], .int .i64 100]) ∧ Below w.heap.size w w' := by
  have c1 := rknown_any k
  rw [hk] at c1
  have C1 := Lib.hid c1
  clear c1 hk
  go_enter Try.func10, Try.ntmps10
  go_wp2_with (go_at_call 24; refine (C1.out _).mono ?_; rintro e w' ⟨rfl, rfl⟩)
  refine ret_cell_tmp [.int .u64 0, .bool false, .int .u64 0, .bool false, .int .u64 0, .int .i64 0] Try.results10 rfl (Try.isAgg26 _) (Try.sizeOf26 _) (t := 26) (by repeat' (first | with_reducible assumption | (show (_ : List Value) = _; rfl) | with_reducible exact Blk.new _ _ rfl | (with_reducible refine Blk.new _ _ ?_; simp; done) | with_reducible apply Blk.set_eq | with_reducible apply Blk.other | with_reducible apply Blk.alloc | (simp; done) | (simp; omega))) rfl ?_
  exact ⟨rfl, (by repeat' (first | with_reducible exact Below.refl _ _ | with_reducible assumption | with_reducible refine bel_drew ?_ | with_reducible refine bel_alloc ?_ _ | with_reducible refine bel_set ?_ ?_ _ | with_reducible refine bel_call ?_ (by assumption) | (dsimp only; omega) | (simp; done) | (simp; omega)))⟩

/-- the worlds of the last statement of Apply -/
structure ApC (w : World) (cs ps rs : List Value) (L : Nat → Bool) (w' : World) : Prop where
  bel : Below w.heap.size w w'
  one : Blk w' w.heap.size cs 26
  two : Blk w' (w.heap.size + 1) ps 24
  res : Blk w' (w.heap.size + 1 + 1) (if L 11 then rs else [.int .u64 0, .bool false, .int .u64 0, .bool false, .int .u64 0, .int .i64 0]) 26
theorem ApC.upd {w : World} {cs ps rs : List Value} {L : Nat → Bool} {w' : World} (h : ApC w cs ps rs L w') {k : Nat} (h6 : k ≠ 11) : ApC w cs ps rs (upd L k) w' :=
  ⟨h.bel, h.one, h.two, by rw [upd_other L (Ne.symm h6)]; exact h.res⟩
theorem ApC.next {w : World} {cs ps rs : List Value} {L : Nat → Bool} {w' w'' : World} (h : ApC w cs ps rs L w') (hb : Below w'.heap.size w' w'') : ApC w cs ps rs L w'' :=
  ⟨bel_call h.bel hb, h.one.below hb, h.two.below hb, h.res.below hb⟩
set_option maxHeartbeats 1000000 in
theorem rapply_again (k : Int) (key : Nat) (prev cur : V) (n b : Int) (p : V) (w : World) (hk : known k = true) (h1 : ¬ b < 1) (h2 : b = n) (ho : prev.ok) (hp : p.ok) :
    Calls Try.prog 10 #[.int .i64 k, .agg #[.int .u64 key, .bool prev.has, .int .u64 prev.bits, .bool cur.has, .int .u64 cur.bits, .int .i64 n], .int .i64 b, .agg #[.bool p.has, .int .u64 p.bits]] w
      fun e w' => e = .returned (.tuple #[.agg #[.int .u64 key, .bool prev.has, .int .u64 prev.bits, .bool (merge k prev p).has, .int .u64 (merge k prev p).bits, .int .i64 b], .int .i64 0]) ∧ Below w.heap.size w w' := by
  have c1 := rknown_any k
  rw [hk] at c1
  have C1 := Lib.hid c1
  have c2 := fun w => rmerge_any k prev p w ho hp
  have C2 := Lib.hid c2
  clear c1 c2 hk ho hp
  subst h2
  go_enter Try.func10, Try.ntmps10
  go_wp2_with (go_at_call 24; refine (C1.out _).mono ?_; rintro e w' ⟨rfl, rfl⟩)
  refine wp_region_cls (ApC w [.int .u64 key, .bool prev.has, .int .u64 prev.bits, .bool cur.has, .int .u64 cur.bits, .int .i64 b] [.bool p.has, .int .u64 p.bits] [.int .u64 key, .bool prev.has, .int .u64 prev.bits, .bool (merge k prev p).has, .int .u64 (merge k prev p).bits, .int .i64 b]) (by kernel_rfl) (by kernel_rfl) ⟨(by repeat' (first | with_reducible exact Below.refl _ _ | with_reducible assumption | with_reducible refine bel_drew ?_ | with_reducible refine bel_alloc ?_ _ | with_reducible refine bel_set ?_ ?_ _ | with_reducible refine bel_call ?_ (by assumption) | (dsimp only; omega) | (simp; done) | (simp; omega))), (((Blk.new _ _ rfl).alloc _).alloc _).drew, ((Blk.new _ _ (by simp)).alloc _).drew, (Blk.new _ _ (by simp)).drew⟩ ?_
  refine lex_op (by rfl) ?_; apply Exists.intro; refine ⟨?_, ?_⟩
  · intro L w' hL hcl hT
    have hT' := hT.upd (k := 0) (by decide)
    have d0 : w'.cell? ⟨w.heap.size, 0, none⟩ = some (.int .u64 key) := hT.one.cell 0
    have d1 : w'.cell? ⟨w.heap.size, 1, none⟩ = some (.bool prev.has) := hT.one.cell 1
    have d2 : w'.cell? ⟨w.heap.size, 2, none⟩ = some (.int .u64 prev.bits) := hT.one.cell 2
    have d3 : w'.cell? ⟨w.heap.size, 3, none⟩ = some (.bool cur.has) := hT.one.cell 3
    have d4 : w'.cell? ⟨w.heap.size, 4, none⟩ = some (.int .u64 cur.bits) := hT.one.cell 4
    have d5 : w'.cell? ⟨w.heap.size, 5, none⟩ = some (.int .i64 b) := hT.one.cell 5
    have p0 : w'.cell? ⟨w.heap.size + 1, 0, none⟩ = some (.bool p.has) := hT.two.cell 0
    have p1 : w'.cell? ⟨w.heap.size + 1, 1, none⟩ = some (.int .u64 p.bits) := hT.two.cell 1
    clear hT hcl
    go_simp
    exact rfl
  simp only [Act.put, List.setIfInBounds_toArray, List.set_cons_zero, List.set_cons_succ]
  refine lex_op (by rfl) ?_; apply Exists.intro; refine ⟨?_, ?_⟩
  · intro L w' hL hcl hT
    have hT' := hT.upd (k := 1) (by decide)
    have d0 : w'.cell? ⟨w.heap.size, 0, none⟩ = some (.int .u64 key) := hT.one.cell 0
    have d1 : w'.cell? ⟨w.heap.size, 1, none⟩ = some (.bool prev.has) := hT.one.cell 1
    have d2 : w'.cell? ⟨w.heap.size, 2, none⟩ = some (.int .u64 prev.bits) := hT.one.cell 2
    have d3 : w'.cell? ⟨w.heap.size, 3, none⟩ = some (.bool cur.has) := hT.one.cell 3
    have d4 : w'.cell? ⟨w.heap.size, 4, none⟩ = some (.int .u64 cur.bits) := hT.one.cell 4
    have d5 : w'.cell? ⟨w.heap.size, 5, none⟩ = some (.int .i64 b) := hT.one.cell 5
    have p0 : w'.cell? ⟨w.heap.size + 1, 0, none⟩ = some (.bool p.has) := hT.two.cell 0
    have p1 : w'.cell? ⟨w.heap.size + 1, 1, none⟩ = some (.int .u64 p.bits) := hT.two.cell 1
    clear hT hcl
    go_simp
    exact rfl
  simp only [Act.put, List.setIfInBounds_toArray, List.set_cons_zero, List.set_cons_succ]
  refine lex_op (by rfl) ?_; apply Exists.intro; refine ⟨?_, ?_⟩
  · intro L w' hL hcl hT
    have hT' := hT.upd (k := 2) (by decide)
    have d0 : w'.cell? ⟨w.heap.size, 0, none⟩ = some (.int .u64 key) := hT.one.cell 0
    have d1 : w'.cell? ⟨w.heap.size, 1, none⟩ = some (.bool prev.has) := hT.one.cell 1
    have d2 : w'.cell? ⟨w.heap.size, 2, none⟩ = some (.int .u64 prev.bits) := hT.one.cell 2
    have d3 : w'.cell? ⟨w.heap.size, 3, none⟩ = some (.bool cur.has) := hT.one.cell 3
    have d4 : w'.cell? ⟨w.heap.size, 4, none⟩ = some (.int .u64 cur.bits) := hT.one.cell 4
    have d5 : w'.cell? ⟨w.heap.size, 5, none⟩ = some (.int .i64 b) := hT.one.cell 5
    have p0 : w'.cell? ⟨w.heap.size + 1, 0, none⟩ = some (.bool p.has) := hT.two.cell 0
    have p1 : w'.cell? ⟨w.heap.size + 1, 1, none⟩ = some (.int .u64 p.bits) := hT.two.cell 1
    clear hT hcl
    go_simp
    exact rfl
  simp only [Act.put, List.setIfInBounds_toArray, List.set_cons_zero, List.set_cons_succ]
  refine lex_op (by rfl) ?_; apply Exists.intro; refine ⟨?_, ?_⟩
  · intro L w' hL hcl hT
    have hT' := hT.upd (k := 3) (by decide)
    have d0 : w'.cell? ⟨w.heap.size, 0, none⟩ = some (.int .u64 key) := hT.one.cell 0
    have d1 : w'.cell? ⟨w.heap.size, 1, none⟩ = some (.bool prev.has) := hT.one.cell 1
    have d2 : w'.cell? ⟨w.heap.size, 2, none⟩ = some (.int .u64 prev.bits) := hT.one.cell 2
    have d3 : w'.cell? ⟨w.heap.size, 3, none⟩ = some (.bool cur.has) := hT.one.cell 3
    have d4 : w'.cell? ⟨w.heap.size, 4, none⟩ = some (.int .u64 cur.bits) := hT.one.cell 4
    have d5 : w'.cell? ⟨w.heap.size, 5, none⟩ = some (.int .i64 b) := hT.one.cell 5
    have p0 : w'.cell? ⟨w.heap.size + 1, 0, none⟩ = some (.bool p.has) := hT.two.cell 0
    have p1 : w'.cell? ⟨w.heap.size + 1, 1, none⟩ = some (.int .u64 p.bits) := hT.two.cell 1
    clear hT hcl
    go_simp
    exact rfl
  simp only [Act.put, List.setIfInBounds_toArray, List.set_cons_zero, List.set_cons_succ]
  refine lex_op (by rfl) ?_; apply Exists.intro; refine ⟨?_, ?_⟩
  · intro L w' hL hcl hT
    have hT' := hT.upd (k := 4) (by decide)
    have d0 : w'.cell? ⟨w.heap.size, 0, none⟩ = some (.int .u64 key) := hT.one.cell 0
    have d1 : w'.cell? ⟨w.heap.size, 1, none⟩ = some (.bool prev.has) := hT.one.cell 1
    have d2 : w'.cell? ⟨w.heap.size, 2, none⟩ = some (.int .u64 prev.bits) := hT.one.cell 2
    have d3 : w'.cell? ⟨w.heap.size, 3, none⟩ = some (.bool cur.has) := hT.one.cell 3
    have d4 : w'.cell? ⟨w.heap.size, 4, none⟩ = some (.int .u64 cur.bits) := hT.one.cell 4
    have d5 : w'.cell? ⟨w.heap.size, 5, none⟩ = some (.int .i64 b) := hT.one.cell 5
    have p0 : w'.cell? ⟨w.heap.size + 1, 0, none⟩ = some (.bool p.has) := hT.two.cell 0
    have p1 : w'.cell? ⟨w.heap.size + 1, 1, none⟩ = some (.int .u64 p.bits) := hT.two.cell 1
    clear hT hcl
    go_simp
    exact rfl
  simp only [Act.put, List.setIfInBounds_toArray, List.set_cons_zero, List.set_cons_succ]
  refine lex_op (by rfl) ?_; apply Exists.intro; refine ⟨?_, ?_⟩
  · intro L w' hL hcl hT
    have hT' := hT.upd (k := 5) (by decide)
    have d0 : w'.cell? ⟨w.heap.size, 0, none⟩ = some (.int .u64 key) := hT.one.cell 0
    have d1 : w'.cell? ⟨w.heap.size, 1, none⟩ = some (.bool prev.has) := hT.one.cell 1
    have d2 : w'.cell? ⟨w.heap.size, 2, none⟩ = some (.int .u64 prev.bits) := hT.one.cell 2
    have d3 : w'.cell? ⟨w.heap.size, 3, none⟩ = some (.bool cur.has) := hT.one.cell 3
    have d4 : w'.cell? ⟨w.heap.size, 4, none⟩ = some (.int .u64 cur.bits) := hT.one.cell 4
    have d5 : w'.cell? ⟨w.heap.size, 5, none⟩ = some (.int .i64 b) := hT.one.cell 5
    have p0 : w'.cell? ⟨w.heap.size + 1, 0, none⟩ = some (.bool p.has) := hT.two.cell 0
    have p1 : w'.cell? ⟨w.heap.size + 1, 1, none⟩ = some (.int .u64 p.bits) := hT.two.cell 1
    clear hT hcl
    go_simp
    exact rfl
  simp only [Act.put, List.setIfInBounds_toArray, List.set_cons_zero, List.set_cons_succ]
  refine lex_op (by rfl) ?_; apply Exists.intro; refine ⟨?_, ?_⟩
  · intro L w' hL hcl hT
    have hT' := hT.upd (k := 6) (by decide)
    have d0 : w'.cell? ⟨w.heap.size, 0, none⟩ = some (.int .u64 key) := hT.one.cell 0
    have d1 : w'.cell? ⟨w.heap.size, 1, none⟩ = some (.bool prev.has) := hT.one.cell 1
    have d2 : w'.cell? ⟨w.heap.size, 2, none⟩ = some (.int .u64 prev.bits) := hT.one.cell 2
    have d3 : w'.cell? ⟨w.heap.size, 3, none⟩ = some (.bool cur.has) := hT.one.cell 3
    have d4 : w'.cell? ⟨w.heap.size, 4, none⟩ = some (.int .u64 cur.bits) := hT.one.cell 4
    have d5 : w'.cell? ⟨w.heap.size, 5, none⟩ = some (.int .i64 b) := hT.one.cell 5
    have p0 : w'.cell? ⟨w.heap.size + 1, 0, none⟩ = some (.bool p.has) := hT.two.cell 0
    have p1 : w'.cell? ⟨w.heap.size + 1, 1, none⟩ = some (.int .u64 p.bits) := hT.two.cell 1
    clear hT hcl
    go_simp
    exact rfl
  simp only [Act.put, List.setIfInBounds_toArray, List.set_cons_zero, List.set_cons_succ]
  refine lex_op (by rfl) ?_; apply Exists.intro; refine ⟨?_, ?_⟩
  · intro L w' hL hcl hT
    have hT' := hT.upd (k := 7) (by decide)
    have d0 : w'.cell? ⟨w.heap.size, 0, none⟩ = some (.int .u64 key) := hT.one.cell 0
    have d1 : w'.cell? ⟨w.heap.size, 1, none⟩ = some (.bool prev.has) := hT.one.cell 1
    have d2 : w'.cell? ⟨w.heap.size, 2, none⟩ = some (.int .u64 prev.bits) := hT.one.cell 2
    have d3 : w'.cell? ⟨w.heap.size, 3, none⟩ = some (.bool cur.has) := hT.one.cell 3
    have d4 : w'.cell? ⟨w.heap.size, 4, none⟩ = some (.int .u64 cur.bits) := hT.one.cell 4
    have d5 : w'.cell? ⟨w.heap.size, 5, none⟩ = some (.int .i64 b) := hT.one.cell 5
    have p0 : w'.cell? ⟨w.heap.size + 1, 0, none⟩ = some (.bool p.has) := hT.two.cell 0
    have p1 : w'.cell? ⟨w.heap.size + 1, 1, none⟩ = some (.int .u64 p.bits) := hT.two.cell 1
    clear hT hcl
    go_simp
    exact rfl
  simp only [Act.put, List.setIfInBounds_toArray, List.set_cons_zero, List.set_cons_succ]
  refine lex_op (by rfl) ?_; apply Exists.intro; refine ⟨?_, ?_⟩
  · intro L w' hL hcl hT
    have hT' := hT.upd (k := 8) (by decide)
    clear hT hcl
    go_simp
    exact (C2.out _).mono fun e w'' ⟨he, hb⟩ => ⟨he, hT'.next hb⟩
  simp only [Act.put, List.setIfInBounds_toArray, List.set_cons_zero, List.set_cons_succ]
  refine lex_op (by rfl) ?_; apply Exists.intro; refine ⟨?_, ?_⟩
  · intro L w' hL hcl hT
    have hT' := hT.upd (k := 9) (by decide)
    have d0 : w'.cell? ⟨w.heap.size, 0, none⟩ = some (.int .u64 key) := hT.one.cell 0
    have d1 : w'.cell? ⟨w.heap.size, 1, none⟩ = some (.bool prev.has) := hT.one.cell 1
    have d2 : w'.cell? ⟨w.heap.size, 2, none⟩ = some (.int .u64 prev.bits) := hT.one.cell 2
    have d3 : w'.cell? ⟨w.heap.size, 3, none⟩ = some (.bool cur.has) := hT.one.cell 3
    have d4 : w'.cell? ⟨w.heap.size, 4, none⟩ = some (.int .u64 cur.bits) := hT.one.cell 4
    have d5 : w'.cell? ⟨w.heap.size, 5, none⟩ = some (.int .i64 b) := hT.one.cell 5
    have p0 : w'.cell? ⟨w.heap.size + 1, 0, none⟩ = some (.bool p.has) := hT.two.cell 0
    have p1 : w'.cell? ⟨w.heap.size + 1, 1, none⟩ = some (.int .u64 p.bits) := hT.two.cell 1
    clear hT hcl
    go_simp
    exact rfl
  simp only [Act.put, List.setIfInBounds_toArray, List.set_cons_zero, List.set_cons_succ]
  refine lex_op (by rfl) ?_; apply Exists.intro; refine ⟨?_, ?_⟩
  · intro L w' hL hcl hT
    have hT' := hT.upd (k := 10) (by decide)
    have d0 : w'.cell? ⟨w.heap.size, 0, none⟩ = some (.int .u64 key) := hT.one.cell 0
    have d1 : w'.cell? ⟨w.heap.size, 1, none⟩ = some (.bool prev.has) := hT.one.cell 1
    have d2 : w'.cell? ⟨w.heap.size, 2, none⟩ = some (.int .u64 prev.bits) := hT.one.cell 2
    have d3 : w'.cell? ⟨w.heap.size, 3, none⟩ = some (.bool cur.has) := hT.one.cell 3
    have d4 : w'.cell? ⟨w.heap.size, 4, none⟩ = some (.int .u64 cur.bits) := hT.one.cell 4
    have d5 : w'.cell? ⟨w.heap.size, 5, none⟩ = some (.int .i64 b) := hT.one.cell 5
    have p0 : w'.cell? ⟨w.heap.size + 1, 0, none⟩ = some (.bool p.has) := hT.two.cell 0
    have p1 : w'.cell? ⟨w.heap.size + 1, 1, none⟩ = some (.int .u64 p.bits) := hT.two.cell 1
    clear hT hcl
    go_simp
    exact rfl
  simp only [Act.put, List.setIfInBounds_toArray, List.set_cons_zero, List.set_cons_succ]
  refine lex_op (by rfl) ?_; apply Exists.intro; refine ⟨?_, ?_⟩
  · intro L w' hL hcl hT
    have q := hT.res
    rw [hL, if_neg (by decide)] at q
    have r0 : w'.cell? ⟨w.heap.size + 1 + 1, 0, none⟩ = some (.int .u64 0) := q.cell 0
    have f0 := q.free 0
    have r1 : w'.cell? ⟨w.heap.size + 1 + 1, 1, none⟩ = some (.bool false) := q.cell 1
    have f1 := q.free 1
    have r2 : w'.cell? ⟨w.heap.size + 1 + 1, 2, none⟩ = some (.int .u64 0) := q.cell 2
    have f2 := q.free 2
    have r3 : w'.cell? ⟨w.heap.size + 1 + 1, 3, none⟩ = some (.bool false) := q.cell 3
    have f3 := q.free 3
    have r4 : w'.cell? ⟨w.heap.size + 1 + 1, 4, none⟩ = some (.int .u64 0) := q.cell 4
    have f4 := q.free 4
    have r5 : w'.cell? ⟨w.heap.size + 1 + 1, 5, none⟩ = some (.int .i64 0) := q.cell 5
    have f5 := q.free 5
    have hT' : ApC w _ _ _ (upd L 11) ((((((w'.setCell ⟨w.heap.size + 1 + 1, 0, none⟩ (.int .u64 key)).setCell ⟨w.heap.size + 1 + 1, 1, none⟩ (.bool prev.has)).setCell ⟨w.heap.size + 1 + 1, 2, none⟩ (.int .u64 prev.bits)).setCell ⟨w.heap.size + 1 + 1, 3, none⟩ (.bool (merge k prev p).has)).setCell ⟨w.heap.size + 1 + 1, 4, none⟩ (.int .u64 (merge k prev p).bits)).setCell ⟨w.heap.size + 1 + 1, 5, none⟩ (.int .i64 b)) :=
      ⟨bel_set (bel_set (bel_set (bel_set (bel_set (bel_set (hT.bel) (by show w.heap.size ≤ w.heap.size + 1 + 1; omega) _) (by show w.heap.size ≤ w.heap.size + 1 + 1; omega) _) (by show w.heap.size ≤ w.heap.size + 1 + 1; omega) _) (by show w.heap.size ≤ w.heap.size + 1 + 1; omega) _) (by show w.heap.size ≤ w.heap.size + 1 + 1; omega) _) (by show w.heap.size ≤ w.heap.size + 1 + 1; omega) _, ((((((hT.one).other (by simp; omega) _).other (by simp; omega) _).other (by simp; omega) _).other (by simp; omega) _).other (by simp; omega) _).other (by simp; omega) _, ((((((hT.two).other (by simp) _).other (by simp) _).other (by simp) _).other (by simp) _).other (by simp) _).other (by simp) _, by rw [upd_same, if_pos rfl]; exact ((((((q).set 0 _).set 1 _).set 2 _).set 3 _).set 4 _).set 5 _⟩
    clear hT hcl q
    go_simp
    exact ⟨hT', rfl⟩
  simp only [Act.put]
  refine lex_op (by rfl) ?_; apply Exists.intro; refine ⟨?_, ?_⟩
  · intro L w' hL hcl hT
    have hT' := hT.upd (k := 12) (by decide)
    clear hT hcl
    go_simp
    exact rfl
  simp only [Act.put, List.setIfInBounds_toArray, List.set_cons_zero, List.set_cons_succ]
  refine lex_nil ?_
  intro w1 hT
  obtain ⟨bel1, q1, q2, q3⟩ := hT
  rw [if_pos rfl] at q3
  clear C1 C2
  go_wp2_with fail
  refine ret_cell_tmp [.int .u64 key, .bool prev.has, .int .u64 prev.bits, .bool (merge k prev p).has, .int .u64 (merge k prev p).bits, .int .i64 b] Try.results10 rfl (Try.isAgg26 _) (Try.sizeOf26 _) (t := 26) (by repeat' (first | with_reducible assumption | (show (_ : List Value) = _; rfl) | with_reducible exact Blk.new _ _ rfl | (with_reducible refine Blk.new _ _ ?_; simp; done) | with_reducible apply Blk.set_eq | with_reducible apply Blk.other | with_reducible apply Blk.alloc | (simp; done) | (simp; omega))) rfl ?_
  exact ⟨rfl, (by repeat' (first | with_reducible exact Below.refl _ _ | with_reducible assumption | with_reducible refine bel_drew ?_ | with_reducible refine bel_alloc ?_ _ | with_reducible refine bel_set ?_ ?_ _ | with_reducible refine bel_call ?_ (by assumption) | (dsimp only; omega) | (simp; done) | (simp; omega)))⟩
set_option maxHeartbeats 1000000 in
theorem rapply_new (k : Int) (key : Nat) (prev cur : V) (n b : Int) (p : V) (w : World) (hk : known k = true) (h1 : ¬ b < 1) (h2 : n < b) (ho : cur.ok) (hp : p.ok) :
    Calls Try.prog 10 #[.int .i64 k, .agg #[.int .u64 key, .bool prev.has, .int .u64 prev.bits, .bool cur.has, .int .u64 cur.bits, .int .i64 n], .int .i64 b, .agg #[.bool p.has, .int .u64 p.bits]] w
      fun e w' => e = .returned (.tuple #[.agg #[.int .u64 key, .bool cur.has, .int .u64 cur.bits, .bool (merge k cur p).has, .int .u64 (merge k cur p).bits, .int .i64 b], .int .i64 0]) ∧ Below w.heap.size w w' := by
  have c1 := rknown_any k
  rw [hk] at c1
  have C1 := Lib.hid c1
  have c2 := fun w => rmerge_any k cur p w ho hp
  have C2 := Lib.hid c2
  clear c1 c2 hk ho hp
  go_enter Try.func10, Try.ntmps10
  go_wp2_with (go_at_call 24; refine (C1.out _).mono ?_; rintro e w' ⟨rfl, rfl⟩)
  refine wp_region_cls (ApC w [.int .u64 key, .bool cur.has, .int .u64 cur.bits, .bool cur.has, .int .u64 cur.bits, .int .i64 n] [.bool p.has, .int .u64 p.bits] [.int .u64 key, .bool cur.has, .int .u64 cur.bits, .bool (merge k cur p).has, .int .u64 (merge k cur p).bits, .int .i64 b]) (by kernel_rfl) (by kernel_rfl) ⟨(by repeat' (first | with_reducible exact Below.refl _ _ | with_reducible assumption | with_reducible refine bel_drew ?_ | with_reducible refine bel_alloc ?_ _ | with_reducible refine bel_set ?_ ?_ _ | with_reducible refine bel_call ?_ (by assumption) | (dsimp only; omega) | (simp; done) | (simp; omega))), (((Blk.new _ _ rfl).alloc _).alloc _).drew, ((Blk.new _ _ (by simp)).alloc _).drew, (Blk.new _ _ (by simp)).drew⟩ ?_
  refine lex_op (by rfl) ?_; apply Exists.intro; refine ⟨?_, ?_⟩
  · intro L w' hL hcl hT
    have hT' := hT.upd (k := 0) (by decide)
    have d0 : w'.cell? ⟨w.heap.size, 0, none⟩ = some (.int .u64 key) := hT.one.cell 0
    have d1 : w'.cell? ⟨w.heap.size, 1, none⟩ = some (.bool cur.has) := hT.one.cell 1
    have d2 : w'.cell? ⟨w.heap.size, 2, none⟩ = some (.int .u64 cur.bits) := hT.one.cell 2
    have d3 : w'.cell? ⟨w.heap.size, 3, none⟩ = some (.bool cur.has) := hT.one.cell 3
    have d4 : w'.cell? ⟨w.heap.size, 4, none⟩ = some (.int .u64 cur.bits) := hT.one.cell 4
    have d5 : w'.cell? ⟨w.heap.size, 5, none⟩ = some (.int .i64 n) := hT.one.cell 5
    have p0 : w'.cell? ⟨w.heap.size + 1, 0, none⟩ = some (.bool p.has) := hT.two.cell 0
    have p1 : w'.cell? ⟨w.heap.size + 1, 1, none⟩ = some (.int .u64 p.bits) := hT.two.cell 1
    clear hT hcl
    go_simp
    exact rfl
  simp only [Act.put, List.setIfInBounds_toArray, List.set_cons_zero, List.set_cons_succ]
  refine lex_op (by rfl) ?_; apply Exists.intro; refine ⟨?_, ?_⟩
  · intro L w' hL hcl hT
    have hT' := hT.upd (k := 1) (by decide)
    have d0 : w'.cell? ⟨w.heap.size, 0, none⟩ = some (.int .u64 key) := hT.one.cell 0
    have d1 : w'.cell? ⟨w.heap.size, 1, none⟩ = some (.bool cur.has) := hT.one.cell 1
    have d2 : w'.cell? ⟨w.heap.size, 2, none⟩ = some (.int .u64 cur.bits) := hT.one.cell 2
    have d3 : w'.cell? ⟨w.heap.size, 3, none⟩ = some (.bool cur.has) := hT.one.cell 3
    have d4 : w'.cell? ⟨w.heap.size, 4, none⟩ = some (.int .u64 cur.bits) := hT.one.cell 4
    have d5 : w'.cell? ⟨w.heap.size, 5, none⟩ = some (.int .i64 n) := hT.one.cell 5
    have p0 : w'.cell? ⟨w.heap.size + 1, 0, none⟩ = some (.bool p.has) := hT.two.cell 0
    have p1 : w'.cell? ⟨w.heap.size + 1, 1, none⟩ = some (.int .u64 p.bits) := hT.two.cell 1
    clear hT hcl
    go_simp
    exact rfl
  simp only [Act.put, List.setIfInBounds_toArray, List.set_cons_zero, List.set_cons_succ]
  refine lex_op (by rfl) ?_; apply Exists.intro; refine ⟨?_, ?_⟩
  · intro L w' hL hcl hT
    have hT' := hT.upd (k := 2) (by decide)
    have d0 : w'.cell? ⟨w.heap.size, 0, none⟩ = some (.int .u64 key) := hT.one.cell 0
    have d1 : w'.cell? ⟨w.heap.size, 1, none⟩ = some (.bool cur.has) := hT.one.cell 1
    have d2 : w'.cell? ⟨w.heap.size, 2, none⟩ = some (.int .u64 cur.bits) := hT.one.cell 2
    have d3 : w'.cell? ⟨w.heap.size, 3, none⟩ = some (.bool cur.has) := hT.one.cell 3
    have d4 : w'.cell? ⟨w.heap.size, 4, none⟩ = some (.int .u64 cur.bits) := hT.one.cell 4
    have d5 : w'.cell? ⟨w.heap.size, 5, none⟩ = some (.int .i64 n) := hT.one.cell 5
    have p0 : w'.cell? ⟨w.heap.size + 1, 0, none⟩ = some (.bool p.has) := hT.two.cell 0
    have p1 : w'.cell? ⟨w.heap.size + 1, 1, none⟩ = some (.int .u64 p.bits) := hT.two.cell 1
    clear hT hcl
    go_simp
    exact rfl
  simp only [Act.put, List.setIfInBounds_toArray, List.set_cons_zero, List.set_cons_succ]
  refine lex_op (by rfl) ?_; apply Exists.intro; refine ⟨?_, ?_⟩
  · intro L w' hL hcl hT
    have hT' := hT.upd (k := 3) (by decide)
    have d0 : w'.cell? ⟨w.heap.size, 0, none⟩ = some (.int .u64 key) := hT.one.cell 0
    have d1 : w'.cell? ⟨w.heap.size, 1, none⟩ = some (.bool cur.has) := hT.one.cell 1
    have d2 : w'.cell? ⟨w.heap.size, 2, none⟩ = some (.int .u64 cur.bits) := hT.one.cell 2
    have d3 : w'.cell? ⟨w.heap.size, 3, none⟩ = some (.bool cur.has) := hT.one.cell 3
    have d4 : w'.cell? ⟨w.heap.size, 4, none⟩ = some (.int .u64 cur.bits) := hT.one.cell 4
    have d5 : w'.cell? ⟨w.heap.size, 5, none⟩ = some (.int .i64 n) := hT.one.cell 5
    have p0 : w'.cell? ⟨w.heap.size + 1, 0, none⟩ = some (.bool p.has) := hT.two.cell 0
    have p1 : w'.cell? ⟨w.heap.size + 1, 1, none⟩ = some (.int .u64 p.bits) := hT.two.cell 1
    clear hT hcl
    go_simp
    exact rfl
  simp only [Act.put, List.setIfInBounds_toArray, List.set_cons_zero, List.set_cons_succ]
  refine lex_op (by rfl) ?_; apply Exists.intro; refine ⟨?_, ?_⟩
  · intro L w' hL hcl hT
    have hT' := hT.upd (k := 4) (by decide)
    have d0 : w'.cell? ⟨w.heap.size, 0, none⟩ = some (.int .u64 key) := hT.one.cell 0
    have d1 : w'.cell? ⟨w.heap.size, 1, none⟩ = some (.bool cur.has) := hT.one.cell 1
    have d2 : w'.cell? ⟨w.heap.size, 2, none⟩ = some (.int .u64 cur.bits) := hT.one.cell 2
    have d3 : w'.cell? ⟨w.heap.size, 3, none⟩ = some (.bool cur.has) := hT.one.cell 3
    have d4 : w'.cell? ⟨w.heap.size, 4, none⟩ = some (.int .u64 cur.bits) := hT.one.cell 4
    have d5 : w'.cell? ⟨w.heap.size, 5, none⟩ = some (.int .i64 n) := hT.one.cell 5
    have p0 : w'.cell? ⟨w.heap.size + 1, 0, none⟩ = some (.bool p.has) := hT.two.cell 0
    have p1 : w'.cell? ⟨w.heap.size + 1, 1, none⟩ = some (.int .u64 p.bits) := hT.two.cell 1
    clear hT hcl
    go_simp
    exact rfl
  simp only [Act.put, List.setIfInBounds_toArray, List.set_cons_zero, List.set_cons_succ]
  refine lex_op (by rfl) ?_; apply Exists.intro; refine ⟨?_, ?_⟩
  · intro L w' hL hcl hT
    have hT' := hT.upd (k := 5) (by decide)
    have d0 : w'.cell? ⟨w.heap.size, 0, none⟩ = some (.int .u64 key) := hT.one.cell 0
    have d1 : w'.cell? ⟨w.heap.size, 1, none⟩ = some (.bool cur.has) := hT.one.cell 1
    have d2 : w'.cell? ⟨w.heap.size, 2, none⟩ = some (.int .u64 cur.bits) := hT.one.cell 2
    have d3 : w'.cell? ⟨w.heap.size, 3, none⟩ = some (.bool cur.has) := hT.one.cell 3
    have d4 : w'.cell? ⟨w.heap.size, 4, none⟩ = some (.int .u64 cur.bits) := hT.one.cell 4
    have d5 : w'.cell? ⟨w.heap.size, 5, none⟩ = some (.int .i64 n) := hT.one.cell 5
    have p0 : w'.cell? ⟨w.heap.size + 1, 0, none⟩ = some (.bool p.has) := hT.two.cell 0
    have p1 : w'.cell? ⟨w.heap.size + 1, 1, none⟩ = some (.int .u64 p.bits) := hT.two.cell 1
    clear hT hcl
    go_simp
    exact rfl
  simp only [Act.put, List.setIfInBounds_toArray, List.set_cons_zero, List.set_cons_succ]
  refine lex_op (by rfl) ?_; apply Exists.intro; refine ⟨?_, ?_⟩
  · intro L w' hL hcl hT
    have hT' := hT.upd (k := 6) (by decide)
    have d0 : w'.cell? ⟨w.heap.size, 0, none⟩ = some (.int .u64 key) := hT.one.cell 0
    have d1 : w'.cell? ⟨w.heap.size, 1, none⟩ = some (.bool cur.has) := hT.one.cell 1
    have d2 : w'.cell? ⟨w.heap.size, 2, none⟩ = some (.int .u64 cur.bits) := hT.one.cell 2
    have d3 : w'.cell? ⟨w.heap.size, 3, none⟩ = some (.bool cur.has) := hT.one.cell 3
    have d4 : w'.cell? ⟨w.heap.size, 4, none⟩ = some (.int .u64 cur.bits) := hT.one.cell 4
    have d5 : w'.cell? ⟨w.heap.size, 5, none⟩ = some (.int .i64 n) := hT.one.cell 5
    have p0 : w'.cell? ⟨w.heap.size + 1, 0, none⟩ = some (.bool p.has) := hT.two.cell 0
    have p1 : w'.cell? ⟨w.heap.size + 1, 1, none⟩ = some (.int .u64 p.bits) := hT.two.cell 1
    clear hT hcl
    go_simp
    exact rfl
  simp only [Act.put, List.setIfInBounds_toArray, List.set_cons_zero, List.set_cons_succ]
  refine lex_op (by rfl) ?_; apply Exists.intro; refine ⟨?_, ?_⟩
  · intro L w' hL hcl hT
    have hT' := hT.upd (k := 7) (by decide)
    have d0 : w'.cell? ⟨w.heap.size, 0, none⟩ = some (.int .u64 key) := hT.one.cell 0
    have d1 : w'.cell? ⟨w.heap.size, 1, none⟩ = some (.bool cur.has) := hT.one.cell 1
    have d2 : w'.cell? ⟨w.heap.size, 2, none⟩ = some (.int .u64 cur.bits) := hT.one.cell 2
    have d3 : w'.cell? ⟨w.heap.size, 3, none⟩ = some (.bool cur.has) := hT.one.cell 3
    have d4 : w'.cell? ⟨w.heap.size, 4, none⟩ = some (.int .u64 cur.bits) := hT.one.cell 4
    have d5 : w'.cell? ⟨w.heap.size, 5, none⟩ = some (.int .i64 n) := hT.one.cell 5
    have p0 : w'.cell? ⟨w.heap.size + 1, 0, none⟩ = some (.bool p.has) := hT.two.cell 0
    have p1 : w'.cell? ⟨w.heap.size + 1, 1, none⟩ = some (.int .u64 p.bits) := hT.two.cell 1
    clear hT hcl
    go_simp
    exact rfl
  simp only [Act.put, List.setIfInBounds_toArray, List.set_cons_zero, List.set_cons_succ]
  refine lex_op (by rfl) ?_; apply Exists.intro; refine ⟨?_, ?_⟩
  · intro L w' hL hcl hT
    have hT' := hT.upd (k := 8) (by decide)
    clear hT hcl
    go_simp
    exact (C2.out _).mono fun e w'' ⟨he, hb⟩ => ⟨he, hT'.next hb⟩
  simp only [Act.put, List.setIfInBounds_toArray, List.set_cons_zero, List.set_cons_succ]
  refine lex_op (by rfl) ?_; apply Exists.intro; refine ⟨?_, ?_⟩
  · intro L w' hL hcl hT
    have hT' := hT.upd (k := 9) (by decide)
    have d0 : w'.cell? ⟨w.heap.size, 0, none⟩ = some (.int .u64 key) := hT.one.cell 0
    have d1 : w'.cell? ⟨w.heap.size, 1, none⟩ = some (.bool cur.has) := hT.one.cell 1
    have d2 : w'.cell? ⟨w.heap.size, 2, none⟩ = some (.int .u64 cur.bits) := hT.one.cell 2
    have d3 : w'.cell? ⟨w.heap.size, 3, none⟩ = some (.bool cur.has) := hT.one.cell 3
    have d4 : w'.cell? ⟨w.heap.size, 4, none⟩ = some (.int .u64 cur.bits) := hT.one.cell 4
    have d5 : w'.cell? ⟨w.heap.size, 5, none⟩ = some (.int .i64 n) := hT.one.cell 5
    have p0 : w'.cell? ⟨w.heap.size + 1, 0, none⟩ = some (.bool p.has) := hT.two.cell 0
    have p1 : w'.cell? ⟨w.heap.size + 1, 1, none⟩ = some (.int .u64 p.bits) := hT.two.cell 1
    clear hT hcl
    go_simp
    exact rfl
  simp only [Act.put, List.setIfInBounds_toArray, List.set_cons_zero, List.set_cons_succ]
  refine lex_op (by rfl) ?_; apply Exists.intro; refine ⟨?_, ?_⟩
  · intro L w' hL hcl hT
    have hT' := hT.upd (k := 10) (by decide)
    have d0 : w'.cell? ⟨w.heap.size, 0, none⟩ = some (.int .u64 key) := hT.one.cell 0
    have d1 : w'.cell? ⟨w.heap.size, 1, none⟩ = some (.bool cur.has) := hT.one.cell 1
    have d2 : w'.cell? ⟨w.heap.size, 2, none⟩ = some (.int .u64 cur.bits) := hT.one.cell 2
    have d3 : w'.cell? ⟨w.heap.size, 3, none⟩ = some (.bool cur.has) := hT.one.cell 3
    have d4 : w'.cell? ⟨w.heap.size, 4, none⟩ = some (.int .u64 cur.bits) := hT.one.cell 4
    have d5 : w'.cell? ⟨w.heap.size, 5, none⟩ = some (.int .i64 n) := hT.one.cell 5
    have p0 : w'.cell? ⟨w.heap.size + 1, 0, none⟩ = some (.bool p.has) := hT.two.cell 0
    have p1 : w'.cell? ⟨w.heap.size + 1, 1, none⟩ = some (.int .u64 p.bits) := hT.two.cell 1
    clear hT hcl
    go_simp
    exact rfl
  simp only [Act.put, List.setIfInBounds_toArray, List.set_cons_zero, List.set_cons_succ]
  refine lex_op (by rfl) ?_; apply Exists.intro; refine ⟨?_, ?_⟩
  · intro L w' hL hcl hT
    have q := hT.res
    rw [hL, if_neg (by decide)] at q
    have r0 : w'.cell? ⟨w.heap.size + 1 + 1, 0, none⟩ = some (.int .u64 0) := q.cell 0
    have f0 := q.free 0
    have r1 : w'.cell? ⟨w.heap.size + 1 + 1, 1, none⟩ = some (.bool false) := q.cell 1
    have f1 := q.free 1
    have r2 : w'.cell? ⟨w.heap.size + 1 + 1, 2, none⟩ = some (.int .u64 0) := q.cell 2
    have f2 := q.free 2
    have r3 : w'.cell? ⟨w.heap.size + 1 + 1, 3, none⟩ = some (.bool false) := q.cell 3
    have f3 := q.free 3
    have r4 : w'.cell? ⟨w.heap.size + 1 + 1, 4, none⟩ = some (.int .u64 0) := q.cell 4
    have f4 := q.free 4
    have r5 : w'.cell? ⟨w.heap.size + 1 + 1, 5, none⟩ = some (.int .i64 0) := q.cell 5
    have f5 := q.free 5
    have hT' : ApC w _ _ _ (upd L 11) ((((((w'.setCell ⟨w.heap.size + 1 + 1, 0, none⟩ (.int .u64 key)).setCell ⟨w.heap.size + 1 + 1, 1, none⟩ (.bool cur.has)).setCell ⟨w.heap.size + 1 + 1, 2, none⟩ (.int .u64 cur.bits)).setCell ⟨w.heap.size + 1 + 1, 3, none⟩ (.bool (merge k cur p).has)).setCell ⟨w.heap.size + 1 + 1, 4, none⟩ (.int .u64 (merge k cur p).bits)).setCell ⟨w.heap.size + 1 + 1, 5, none⟩ (.int .i64 b)) :=
      ⟨bel_set (bel_set (bel_set (bel_set (bel_set (bel_set (hT.bel) (by show w.heap.size ≤ w.heap.size + 1 + 1; omega) _) (by show w.heap.size ≤ w.heap.size + 1 + 1; omega) _) (by show w.heap.size ≤ w.heap.size + 1 + 1; omega) _) (by show w.heap.size ≤ w.heap.size + 1 + 1; omega) _) (by show w.heap.size ≤ w.heap.size + 1 + 1; omega) _) (by show w.heap.size ≤ w.heap.size + 1 + 1; omega) _, ((((((hT.one).other (by simp; omega) _).other (by simp; omega) _).other (by simp; omega) _).other (by simp; omega) _).other (by simp; omega) _).other (by simp; omega) _, ((((((hT.two).other (by simp) _).other (by simp) _).other (by simp) _).other (by simp) _).other (by simp) _).other (by simp) _, by rw [upd_same, if_pos rfl]; exact ((((((q).set 0 _).set 1 _).set 2 _).set 3 _).set 4 _).set 5 _⟩
    clear hT hcl q
    go_simp
    exact ⟨hT', rfl⟩
  simp only [Act.put]
  refine lex_op (by rfl) ?_; apply Exists.intro; refine ⟨?_, ?_⟩
  · intro L w' hL hcl hT
    have hT' := hT.upd (k := 12) (by decide)
    clear hT hcl
    go_simp
    exact rfl
  simp only [Act.put, List.setIfInBounds_toArray, List.set_cons_zero, List.set_cons_succ]
  refine lex_nil ?_
  intro w1 hT
  obtain ⟨bel1, q1, q2, q3⟩ := hT
  rw [if_pos rfl] at q3
  clear C1 C2
  go_wp2_with fail
  refine ret_cell_tmp [.int .u64 key, .bool cur.has, .int .u64 cur.bits, .bool (merge k cur p).has, .int .u64 (merge k cur p).bits, .int .i64 b] Try.results10 rfl (Try.isAgg26 _) (Try.sizeOf26 _) (t := 26) (by repeat' (first | with_reducible assumption | (show (_ : List Value) = _; rfl) | with_reducible exact Blk.new _ _ rfl | (with_reducible refine Blk.new _ _ ?_; simp; done) | with_reducible apply Blk.set_eq | with_reducible apply Blk.other | with_reducible apply Blk.alloc | (simp; done) | (simp; omega))) rfl ?_
  exact ⟨rfl, (by repeat' (first | with_reducible exact Below.refl _ _ | with_reducible assumption | with_reducible refine bel_drew ?_ | with_reducible refine bel_alloc ?_ _ | with_reducible refine bel_set ?_ ?_ _ | with_reducible refine bel_call ?_ (by assumption) | (dsimp only; omega) | (simp; done) | (simp; omega)))⟩
theorem rapply_any (k : Int) (c : Cl) (b : Int) (p : V) (w : World) (hc : c.ok) (hp : p.ok) :
    Calls Try.prog 10 #[.int .i64 k, .agg #[.int .u64 c.key, .bool c.prev.has, .int .u64 c.prev.bits, .bool c.cur.has, .int .u64 c.cur.bits, .int .i64 c.batch], .int .i64 b, .agg #[.bool p.has, .int .u64 p.bits]] w
      fun e w' => e = .returned (.tuple #[.agg #[.int .u64 (applyC k c b p).key, .bool (applyC k c b p).prev.has, .int .u64 (applyC k c b p).prev.bits, .bool (applyC k c b p).cur.has, .int .u64 (applyC k c b p).cur.bits, .int .i64 (applyC k c b p).batch], .int .i64 (applyE k c b)]) ∧ Below w.heap.size w w' := by
  by_cases h0 : known k = false ∨ b < 1
  · obtain ⟨e1, e2⟩ := Fl.apply_arg (c := c) (p := p) h0
    rw [e1, e2]
    exact rapply_arg k _ _ _ _ b p w h0
  have hk : known k = true := by cases h : known k; exact absurd (.inl h) h0; rfl
  have h1 : ¬ b < 1 := fun h => h0 (.inr h)
  rcases Int.lt_trichotomy b c.batch with h2 | h2 | h2
  · obtain ⟨e1, e2⟩ := Fl.apply_over (c := c) (p := p) hk h1 h2
    rw [e1, e2]
    exact rapply_over k _ _ _ _ b p w hk h1 h2
  · obtain ⟨e1, e2⟩ := Fl.apply_again (c := c) (p := p) hk h1 h2
    rw [e1, e2]
    exact rapply_again k _ _ _ _ b p w hk h1 h2 hc.1 hp
  · obtain ⟨e1, e2⟩ := Fl.apply_new (c := c) (p := p) hk h1 h2
    rw [e1, e2]
    exact rapply_new k _ _ _ _ b p w hk h1 h2 hc.2 hp
end Go.Proofs.Ytelofaceadlfmaa
