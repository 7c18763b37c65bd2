/- WALK of CellRow. -/
import Derived.Test.YtelofaceadlfmaaLawA
import Derived.Deep.LoopGhost
namespace Go.Proofs.Ytelofaceadlfmaa
open Go.RowKit
open Fl (known fit merge V Cl applyC applyE revertC resolveC emptyC fitC)

structure Rd where
  part : V
  wrong : V
  fails : Bool
  miss : Bool
structure Rds (w : World) (b o len : Nat) (f : Nat → Rd) : Prop where
  lt : b < w.heap.size
  ok : ∀ i, i < len → (f i).part.ok ∧ (f i).wrong.ok
  c0 : ∀ i, i < len → w.cell? ⟨b, o + (i * 6 + 0), none⟩ = some (.bool (f i).part.has)
  c1 : ∀ i, i < len → w.cell? ⟨b, o + (i * 6 + 1), none⟩ = some (.int .u64 (f i).part.bits)
  c2 : ∀ i, i < len → w.cell? ⟨b, o + (i * 6 + 2), none⟩ = some (.bool (f i).wrong.has)
  c3 : ∀ i, i < len → w.cell? ⟨b, o + (i * 6 + 3), none⟩ = some (.int .u64 (f i).wrong.bits)
  c4 : ∀ i, i < len → w.cell? ⟨b, o + (i * 6 + 4), none⟩ = some (.bool (f i).fails)
  c5 : ∀ i, i < len → w.cell? ⟨b, o + (i * 6 + 5), none⟩ = some (.bool (f i).miss)

section
variable {w : World} {b : Nat} {t : TypeId}
theorem Blk.c6 {a0 a1 a2 a3 a4 a5 : Value} (h : Blk w b [a0, a1, a2, a3, a4, a5] t) :
    w.cell? ⟨b, 0, none⟩ = some a0 ∧ w.cell? ⟨b, 1, none⟩ = some a1 ∧ w.cell? ⟨b, 2, none⟩ = some a2 ∧ w.cell? ⟨b, 3, none⟩ = some a3 ∧ w.cell? ⟨b, 4, none⟩ = some a4 ∧ w.cell? ⟨b, 5, none⟩ = some a5 ∧ b < w.heap.size :=
  ⟨h.cell 0, h.cell 1, h.cell 2, h.cell 3, h.cell 4, h.cell 5, h.lt⟩
theorem Blk.c2 {a0 a1 : Value} (h : Blk w b [a0, a1] t) : w.cell? ⟨b, 0, none⟩ = some a0 ∧ w.cell? ⟨b, 1, none⟩ = some a1 ∧ b < w.heap.size :=
  ⟨h.cell 0, h.cell 1, h.lt⟩
theorem Blk.f6 {cs : List Value} (h : Blk w b cs t) : w.frozen? ⟨b, 0, none⟩ = false ∧ w.frozen? ⟨b, 1, none⟩ = false ∧ w.frozen? ⟨b, 2, none⟩ = false ∧ w.frozen? ⟨b, 3, none⟩ = false ∧ w.frozen? ⟨b, 4, none⟩ = false ∧ w.frozen? ⟨b, 5, none⟩ = false :=
  ⟨h.free 0, h.free 1, h.free 2, h.free 3, h.free 4, h.free 5⟩
end

theorem wp_world {P : Program} {c : Code} {Q : Exit → Act → World → Prop} {a : Act} {W : World} {X : World → Prop} (h : X W) (k : ∀ W', X W' → c.wp P Q a W') : c.wp P Q a W := k W h
/-- what holds at the loop's head -/
structure RowJ (w : World) (k : Int) (bc ba i : Nat) (prev cur : V) (n : Int) (wr : World) : Prop where
  bel : Below w.heap.size w wr
  cell : Blk wr bc [.int .u64 7, .bool prev.has, .int .u64 prev.bits, .bool cur.has, .int .u64 cur.bits, .int .i64 n] 26
  all : Blk wr ba [.bool cur.has, .int .u64 cur.bits] 24
  okp : prev.ok
  okc : cur.ok
  lo : 0 ≤ n
  hi : n ≤ (i : Int)
  fit : fitC k ⟨7, prev, cur, n⟩ = true

set_option maxRecDepth 100000 in
set_option maxHeartbeats 20000000 in
theorem row_main (k : Int) (a : Option Addr) (len cap rb ro : Nat) (f : Nat → Rd) (w : World) (hk : known k = true) (ha : 0 < len → a = some ⟨rb, ro, none⟩) (hz : len ≤ 1048576) (hr : 0 < len → Rds w rb ro len f) :
    Calls Try.prog 6 #[.int .i64 k, .slice a len cap] w fun e w' => e = .returned (.bool true) ∧ Below w.heap.size w w' := by
  have C1 := Lib.hid awake_any
  have c2 := known_any k
  rw [hk] at c2
  have C2 := Lib.hid c2
  have HK := Lib.hid hk
  have HA := Lib.hid ha
  have HR := Lib.hid hr
  clear c2 hk ha hr
  go_enter Try.func6, Try.ntmps6
  go_wp2_with fail
  refine (C1.out _).mono ?_
  rintro e w1 ⟨rfl, hb1⟩
  have p1 : Below w.heap.size w w1 := (by repeat' (first | with_reducible exact Below.refl _ _ | with_reducible assumption | with_reducible refine bel_drew ?_ | with_reducible refine bel_alloc ?_ _ | with_reducible refine bel_set ?_ ?_ _ | with_reducible refine bel_call ?_ (by assumption) | (dsimp only; omega) | (simp; done) | (simp; omega)))
  clear hb1
  go_wp2_with (go_at_call 20; refine (C2.out _).mono ?_; rintro e w' ⟨rfl, rfl⟩)
  have g1 : Blk ((w1.alloc (.cells #[.int .u64 7, .bool false, .int .u64 0, .bool false, .int .u64 0, .int .i64 0] 26)).alloc (.cells #[.bool false, .int .u64 0] 24)) w1.heap.size [.int .u64 7, .bool false, .int .u64 0, .bool false, .int .u64 0, .int .i64 0] 26 := ((Blk.new _ _ rfl).alloc _)
  have g2 : Blk ((w1.alloc (.cells #[.int .u64 7, .bool false, .int .u64 0, .bool false, .int .u64 0, .int .i64 0] 26)).alloc (.cells #[.bool false, .int .u64 0] 24)) (w1.heap.size + 1) [.bool false, .int .u64 0] 24 := Blk.new _ _ (by simp)
  have g3 : Below w.heap.size w ((w1.alloc (.cells #[.int .u64 7, .bool false, .int .u64 0, .bool false, .int .u64 0, .int .i64 0] 26)).alloc (.cells #[.bool false, .int .u64 0] 24)) := (by repeat' (first | with_reducible exact Below.refl _ _ | with_reducible assumption | with_reducible refine bel_drew ?_ | with_reducible refine bel_alloc ?_ _ | with_reducible refine bel_set ?_ ?_ _ | with_reducible refine bel_call ?_ (by assumption) | (dsimp only; omega) | (simp; done) | (simp; omega)))
  have s1 : w.heap.size ≤ w1.heap.size := p1.size
  have s2 : w.heap.size ≤ w1.heap.size + 1 := by omega
  have s3 : w1.heap.size ≠ w1.heap.size + 1 := by omega
  generalize (w1.alloc (.cells #[.int .u64 7, .bool false, .int .u64 0, .bool false, .int .u64 0, .int .i64 0] 26)).alloc (.cells #[.bool false, .int .u64 0] 24) = w2 at *
  generalize w1.heap.size + 1 = ba at *
  generalize w1.heap.size = bc at *
  clear p1 w1 C1 C2
  go_loopg [9] len (fun g s9 wr => ∃ (i : Nat) (prev cur : V) (n : Int), i ≤ len ∧ g = len - i ∧ s9 = .int .i64 i ∧ RowJ w k bc ba i prev cur n wr)
  case atStart => exact ⟨0, .none, .none, 0, Nat.zero_le _, rfl, rfl, g3, g1, g2, Fl.none_ok, Fl.none_ok, by decide, by decide, by unfold fitC; rw [HK.out, Fl.fit_none]; rfl⟩
  case round =>
    obtain ⟨i, prev, cur, n, hi, rfl, rfl, hJ⟩ := hrel
    clear g1 g2 g3
    by_cases hlt : i < len
    · obtain rfl := HA.out (by omega)
      have hr := HR.out (by omega)
      have p := hJ.bel
      have rz : rb < wr.heap.size := Nat.lt_of_lt_of_le hr.lt p.size
      have x0 : wr.cell? ⟨rb, ro + i * 6, none⟩ = some (.bool (f i).part.has) := (p.cell (p := ⟨rb, ro + (i * 6 + 0), none⟩) hr.lt).trans (hr.c0 i hlt)
      have x1 : wr.cell? ⟨rb, ro + i * 6 + 1, none⟩ = some (.int .u64 (f i).part.bits) := (p.cell (p := ⟨rb, ro + (i * 6 + 1), none⟩) hr.lt).trans (hr.c1 i hlt)
      have x2 : wr.cell? ⟨rb, ro + i * 6 + 2, none⟩ = some (.bool (f i).wrong.has) := (p.cell (p := ⟨rb, ro + (i * 6 + 2), none⟩) hr.lt).trans (hr.c2 i hlt)
      have x3 : wr.cell? ⟨rb, ro + i * 6 + 3, none⟩ = some (.int .u64 (f i).wrong.bits) := (p.cell (p := ⟨rb, ro + (i * 6 + 3), none⟩) hr.lt).trans (hr.c3 i hlt)
      have x4 : wr.cell? ⟨rb, ro + i * 6 + 4, none⟩ = some (.bool (f i).fails) := (p.cell (p := ⟨rb, ro + (i * 6 + 4), none⟩) hr.lt).trans (hr.c4 i hlt)
      have x5 : wr.cell? ⟨rb, ro + i * 6 + 5, none⟩ = some (.bool (f i).miss) := (p.cell (p := ⟨rb, ro + (i * 6 + 5), none⟩) hr.lt).trans (hr.c5 i hlt)
      obtain ⟨hpo, hwo⟩ := hr.ok i hlt
      clear hr
      generalize f i = r at *
      obtain ⟨part, wrong, fails, miss⟩ := r
      dsimp only at x0 x1 x2 x3 x4 x5 hpo hwo
      have hz2 : (i : Int) < (len : Int) := by omega
      obtain ⟨b, hbi⟩ : ∃ b : Int, b = (i : Int) + 1 := ⟨_, rfl⟩
      have hw1 : IntKind.i64.wrap ((i : Int) + 1) = b := by rw [hbi]; exact Go.IntWalk.i64_in _ (by omega)
      have hw2 : IntKind.i64.wrap (b - 1) = b - 1 := Go.IntWalk.i64_in _ (by omega)
      have C3 := Lib.hid (fun w => apply_new k 7 prev cur n b wrong w HK.out (by have := hJ.lo; omega) (by have := hJ.hi; omega) hJ.okc hwo)
      have HB : Hid (b = (i : Int) + 1 ∧ n < b ∧ n ≤ b - 1 ∧ 0 ≤ n ∧ b ≤ 1048576 ∧ 1 ≤ b) := Lib.hid ⟨hbi, by have := hJ.hi; omega, by have := hJ.hi; omega, hJ.lo, by omega, by omega⟩
      clear hbi
      generalize merge k cur wrong = m at *
      have q := hJ.cell
      have v := hJ.all
      obtain ⟨qc0, qc1, qc2, qc3, qc4, qc5, qz⟩ := q.c6
      obtain ⟨vc0, vc1, vz⟩ := v.c2
      -- the contracts of this round
      obtain ⟨hb0, hb1, hb2, hb3, hb4, hb5⟩ := HB.out
      have c4 := fun w => resolve_any ⟨7, cur, m, b⟩ (b - 1) w
      rw [show resolveC ⟨7, cur, m, b⟩ (b - 1) = cur by unfold resolveC; rw [if_pos (by dsimp only; omega)]] at c4
      have c5 := fun w => revert_any ⟨7, cur, m, b⟩ b w ⟨by dsimp only; omega, by dsimp only; omega⟩
      rw [show revertC ⟨7, cur, m, b⟩ b = ⟨7, cur, cur, b - 1⟩ by unfold revertC; rw [if_pos ⟨rfl, by omega⟩]] at c5
      have c6 : ∀ (pv cu : V) (n2 d : Int), n2 ≤ d → ∀ w, Calls Try.prog 17 #[.agg #[.int .u64 7, .bool pv.has, .int .u64 pv.bits, .bool cu.has, .int .u64 cu.bits, .int .i64 n2], .int .i64 d] w fun e w' => e = .returned (.agg #[.bool cu.has, .int .u64 cu.bits]) ∧ Below w.heap.size w w' := fun pv cu n2 d h w => by
        have c := resolve_any ⟨7, pv, cu, n2⟩ d w
        rw [show resolveC ⟨7, pv, cu, n2⟩ d = cu by unfold resolveC; rw [if_neg (by dsimp only; omega)]] at c
        exact c
      have C7 := Lib.hid (fun (pv : V) (n2 : Int) (h : n2 ≤ b - 1) w => apply_new k 7 pv cur n2 b part w HK.out (by omega) (by omega) hJ.okc hpo)
      generalize hm2 : merge k cur part = m2 at C7
      have c8 := fun w => resolve_any ⟨7, cur, m2, b⟩ (b - 1) w
      rw [show resolveC ⟨7, cur, m2, b⟩ (b - 1) = cur by unfold resolveC; rw [if_pos (by dsimp only; omega)]] at c8
      have c9 := fun w => merge_any k cur part w hJ.okc hpo
      rw [hm2] at c9
      dsimp only at c4 c5 c8
      have C4 := Lib.hid c4
      have C5 := Lib.hid c5
      have C6 := Lib.hid c6
      have C8 := Lib.hid c8
      have C9 := Lib.hid c9
      have F1 := Lib.hid hJ.fit
      have F2 : Hid (fitC k ⟨7, cur, cur, b - 1⟩ = true) := Lib.hid (by
        have h := hJ.fit
        unfold fitC at h ⊢
        simp only [Bool.and_eq_true, decide_eq_true_eq] at h ⊢
        exact ⟨⟨⟨⟨h.1.1.1.1, h.1.1.2⟩, h.1.1.2⟩, by omega⟩, by omega⟩)
      have F3 : Hid (fitC k ⟨7, cur, m2, b⟩ = true) := Lib.hid (by
        have h := hJ.fit
        unfold fitC at h ⊢
        simp only [Bool.and_eq_true, decide_eq_true_eq] at h ⊢
        exact ⟨⟨⟨⟨h.1.1.1.1, h.1.1.2⟩, by rw [← hm2]; exact Fl.fit_merge k cur part⟩, by omega⟩, by omega⟩)
      have O1 := Lib.hid hJ.okp
      have O2 := Lib.hid hJ.okc
      have O3 : Hid (m2.ok) := Lib.hid (hm2 ▸ Fl.merge_ok hJ.okc hpo)
      clear c4 c5 c6 c8 c9 hm2 hb0 hb1 hb2 hb3 hb4 hb5 hpo hwo hJ
      have s4 := q.lt
      have s5 := v.lt
      cases fails
      case' false =>
        go_wp2_with fail
        refine wp_world (X := fun W => ∃ (pv : V) (n2 : Int) (fl : Bool), Below w.heap.size w W ∧ Blk W bc [.int .u64 7, .bool pv.has, .int .u64 pv.bits, .bool cur.has, .int .u64 cur.bits, .int .i64 n2] 26 ∧ Blk W ba [.bool cur.has, .int .u64 cur.bits] 24 ∧ Blk W wr.heap.size [.bool part.has, .int .u64 part.bits, .bool wrong.has, .int .u64 wrong.bits, .bool fl, .bool miss] 51 ∧ pv.ok ∧ 0 ≤ n2 ∧ n2 ≤ b - 1 ∧ fitC k ⟨7, pv, cur, n2⟩ = true) ⟨prev, n, false, (by repeat' (first | with_reducible exact Below.refl _ _ | with_reducible assumption | with_reducible refine bel_drew ?_ | with_reducible refine bel_alloc ?_ _ | with_reducible refine bel_set ?_ ?_ _ | with_reducible refine bel_call ?_ (by assumption) | (dsimp only; omega) | (simp; done) | (simp; omega))), q.alloc _, v.alloc _, Blk.new _ _ rfl, O1.out, HB.out.2.2.2.1, HB.out.2.2.1, F1.out⟩ ?_
        clear q v qc0 qc1 qc2 qc3 qc4 qc5 qz vc0 vc1 vz x0 x1 x2 x3 x4 x5 p rz
      case' true =>
        go_wp2_with fail
        refine (C3.out _).mono ?_
        rintro e w3 ⟨rfl, hb3⟩
        have p3 : Below w.heap.size w w3 := (by repeat' (first | with_reducible exact Below.refl _ _ | with_reducible assumption | with_reducible refine bel_drew ?_ | with_reducible refine bel_alloc ?_ _ | with_reducible refine bel_set ?_ ?_ _ | with_reducible refine bel_call ?_ (by assumption) | (dsimp only; omega) | (simp; done) | (simp; omega)))
        have q3 := (q.alloc (.cells #[.bool part.has, .int .u64 part.bits, .bool wrong.has, .int .u64 wrong.bits, .bool true, .bool miss] 51)).below hb3
        have v3 := (v.alloc (.cells #[.bool part.has, .int .u64 part.bits, .bool wrong.has, .int .u64 wrong.bits, .bool true, .bool miss] 51)).below hb3
        have e3 := (Blk.new (w := wr) [.bool part.has, .int .u64 part.bits, .bool wrong.has, .int .u64 wrong.bits, .bool true, .bool miss] 51 rfl).below hb3
        obtain ⟨zc0, zc1, zz⟩ := v3.c2
        clear q v qc0 qc1 qc2 qc3 qc4 qc5 qz vc0 vc1 vz x0 x1 x2 x3 x4 x5 p rz hb3 C3
        go_wp2_with fail
        refine wp_region_below (by kernel_rfl) (by kernel_rfl) ?_
        iterate 10 (first | (refine lex_skip (by rfl) (fun _ _ _ _ h => h) ?_; simp only [Act.put, List.setIfInBounds_toArray, List.set_cons_zero, List.set_cons_succ]) | (refine lex_op (by rfl) ?_; apply Exists.intro; refine ⟨?_, ?_⟩; ((intro _ _ _ _ hT; obtain ⟨hc, hf⟩ := bcell hT; go_simp; first | exact rfl | exact call_below hT (C4.out _))); simp only [Act.put, List.setIfInBounds_toArray, List.set_cons_zero, List.set_cons_succ]))
        refine lex_nil ?_
        intro w4 hb4
        have p4 : Below w.heap.size w w4 := (by repeat' (first | with_reducible exact Below.refl _ _ | with_reducible assumption | with_reducible refine bel_drew ?_ | with_reducible refine bel_alloc ?_ _ | with_reducible refine bel_set ?_ ?_ _ | with_reducible refine bel_call ?_ (by assumption) | (dsimp only; omega) | (simp; done) | (simp; omega)))
        have q4 := (q3.alloc _).below hb4
        have v4 := (v3.alloc _).below hb4
        have e4 := (e3.alloc _).below hb4
        have d4 := (Blk.new (w := w3) [.int .u64 7, .bool cur.has, .int .u64 cur.bits, .bool m.has, .int .u64 m.bits, .int .i64 b] 26 rfl).below hb4
        obtain ⟨dc0, dc1, dc2, dc3, dc4, dc5, dz⟩ := d4.c6
        clear q3 v3 e3 zc0 zc1 zz p3 hb4
        go_wp2_with fail
        refine (C5.out _).mono ?_
        rintro e w5 ⟨rfl, hb5⟩
        have p5 : Below w.heap.size w w5 := (by repeat' (first | with_reducible exact Below.refl _ _ | with_reducible assumption | with_reducible refine bel_drew ?_ | with_reducible refine bel_alloc ?_ _ | with_reducible refine bel_set ?_ ?_ _ | with_reducible refine bel_call ?_ (by assumption) | (dsimp only; omega) | (simp; done) | (simp; omega)))
        have q5 := q4.below hb5
        have v5 := v4.below hb5
        have e5 := e4.below hb5
        obtain ⟨qc0, qc1, qc2, qc3, qc4, qc5, qz⟩ := q5.c6
        obtain ⟨qf0, qf1, qf2, qf3, qf4, qf5⟩ := q5.f6
        clear q4 v4 e4 d4 dc0 dc1 dc2 dc3 dc4 dc5 dz p4 hb5 C4 C5
        go_wp2_with fail
        refine wp_world (X := fun W => ∃ (pv : V) (n2 : Int) (fl : Bool), Below w.heap.size w W ∧ Blk W bc [.int .u64 7, .bool pv.has, .int .u64 pv.bits, .bool cur.has, .int .u64 cur.bits, .int .i64 n2] 26 ∧ Blk W ba [.bool cur.has, .int .u64 cur.bits] 24 ∧ Blk W wr.heap.size [.bool part.has, .int .u64 part.bits, .bool wrong.has, .int .u64 wrong.bits, .bool fl, .bool miss] 51 ∧ pv.ok ∧ 0 ≤ n2 ∧ n2 ≤ b - 1 ∧ fitC k ⟨7, pv, cur, n2⟩ = true) ⟨cur, b - 1, true, (by repeat' (first | with_reducible exact Below.refl _ _ | with_reducible assumption | with_reducible refine bel_drew ?_ | with_reducible refine bel_alloc ?_ _ | with_reducible refine bel_set ?_ ?_ _ | with_reducible refine bel_call ?_ (by assumption) | (dsimp only; omega) | (simp; done) | (simp; omega))), (by repeat' (first | with_reducible assumption | (show (_ : List Value) = _; rfl) | with_reducible exact Blk.new _ _ rfl | (with_reducible refine Blk.new _ _ ?_; simp; done) | with_reducible apply Blk.set_eq | with_reducible apply Blk.other | with_reducible apply Blk.alloc | (simp; done) | (simp; omega))), (by repeat' (first | with_reducible assumption | (show (_ : List Value) = _; rfl) | with_reducible exact Blk.new _ _ rfl | (with_reducible refine Blk.new _ _ ?_; simp; done) | with_reducible apply Blk.set_eq | with_reducible apply Blk.other | with_reducible apply Blk.alloc | (simp; done) | (simp; omega))), (by repeat' (first | with_reducible assumption | (show (_ : List Value) = _; rfl) | with_reducible exact Blk.new _ _ rfl | (with_reducible refine Blk.new _ _ ?_; simp; done) | with_reducible apply Blk.set_eq | with_reducible apply Blk.other | with_reducible apply Blk.alloc | (simp; done) | (simp; omega))), O2.out, (by have := HB.out; omega), Int.le_refl _, F2.out⟩ ?_
        clear q5 v5 e5 qc0 qc1 qc2 qc3 qc4 qc5 qz qf0 qf1 qf2 qf3 qf4 qf5 p5
      all_goals
        rintro w6 ⟨pv, n2, fl, p6, q6, v6, e6, op, l0, l1, ft⟩
        obtain ⟨qc0, qc1, qc2, qc3, qc4, qc5, qz⟩ := q6.c6
        obtain ⟨vc0, vc1, vz⟩ := v6.c2
        refine wp_region_below (by kernel_rfl) (by kernel_rfl) ?_
        iterate 6 (first | (refine lex_skip (by rfl) (fun _ _ _ _ h => h) ?_; simp only [Act.put, List.setIfInBounds_toArray, List.set_cons_zero, List.set_cons_succ]) | (refine lex_op (by rfl) ?_; apply Exists.intro; refine ⟨?_, ?_⟩; ((intro _ _ _ _ hT; obtain ⟨hc, hf⟩ := bcell hT; go_simp; first | exact rfl | exact call_below hT (C6.out _ _ _ _ l1 _))); simp only [Act.put, List.setIfInBounds_toArray, List.set_cons_zero, List.set_cons_succ]))
        refine lex_nil ?_
        intro w7 hb7
        have p7 : Below w.heap.size w w7 := (by repeat' (first | with_reducible exact Below.refl _ _ | with_reducible assumption | with_reducible refine bel_drew ?_ | with_reducible refine bel_alloc ?_ _ | with_reducible refine bel_set ?_ ?_ _ | with_reducible refine bel_call ?_ (by assumption) | (dsimp only; omega) | (simp; done) | (simp; omega)))
        have q7 := q6.below hb7
        have v7 := v6.below hb7
        have e7 := e6.below hb7
        clear q6 v6 e6 qc0 qc1 qc2 qc3 qc4 qc5 qz vc0 vc1 vz p6 hb7
        obtain ⟨qc0, qc1, qc2, qc3, qc4, qc5, qz⟩ := q7.c6
        obtain ⟨vc0, vc1, vz⟩ := v7.c2
        obtain ⟨ec0, ec1, ec2, ec3, ec4, ec5, ez⟩ := e7.c6
        cases miss
        case' false =>
          go_wp2_with fail
          refine (C7.out _ _ l1 _).mono ?_
          rintro e w8 ⟨rfl, hb8⟩
          have p8 : Below w.heap.size w w8 := (by repeat' (first | with_reducible exact Below.refl _ _ | with_reducible assumption | with_reducible refine bel_drew ?_ | with_reducible refine bel_alloc ?_ _ | with_reducible refine bel_set ?_ ?_ _ | with_reducible refine bel_call ?_ (by assumption) | (dsimp only; omega) | (simp; done) | (simp; omega)))
          have q8 := q7.below hb8
          have v8 := v7.below hb8
          have e8 := e7.below hb8
          clear q7 v7 e7 qc0 qc1 qc2 qc3 qc4 qc5 qz vc0 vc1 vz ec0 ec1 ec2 ec3 ec4 ec5 ez p7 hb8
          obtain ⟨vc0, vc1, vz⟩ := v8.c2
          go_wp2_with fail
          refine wp_region_below (by kernel_rfl) (by kernel_rfl) ?_
          iterate 10 (first | (refine lex_skip (by rfl) (fun _ _ _ _ h => h) ?_; simp only [Act.put, List.setIfInBounds_toArray, List.set_cons_zero, List.set_cons_succ]) | (refine lex_op (by rfl) ?_; apply Exists.intro; refine ⟨?_, ?_⟩; ((intro _ _ _ _ hT; obtain ⟨hc, hf⟩ := bcell hT; go_simp; first | exact rfl | exact call_below hT (C8.out _))); simp only [Act.put, List.setIfInBounds_toArray, List.set_cons_zero, List.set_cons_succ]))
          refine lex_nil ?_
          intro w9 hb9
          have p9 : Below w.heap.size w w9 := (by repeat' (first | with_reducible exact Below.refl _ _ | with_reducible assumption | with_reducible refine bel_drew ?_ | with_reducible refine bel_alloc ?_ _ | with_reducible refine bel_set ?_ ?_ _ | with_reducible refine bel_call ?_ (by assumption) | (dsimp only; omega) | (simp; done) | (simp; omega)))
          have q9 := (q8.alloc _).below hb9
          have v9 := (v8.alloc _).below hb9
          have e9 := (e8.alloc _).below hb9
          have d9 := (Blk.new (w := w8) [.int .u64 7, .bool cur.has, .int .u64 cur.bits, .bool m2.has, .int .u64 m2.bits, .int .i64 b] 26 rfl).below hb9
          clear q8 v8 e8 vc0 vc1 vz p8 hb9
          obtain ⟨dc0, dc1, dc2, dc3, dc4, dc5, dz⟩ := d9.c6
          obtain ⟨qc0, qc1, qc2, qc3, qc4, qc5, qz⟩ := q9.c6
          obtain ⟨qf0, qf1, qf2, qf3, qf4, qf5⟩ := q9.f6
          obtain ⟨vc0, vc1, vz⟩ := v9.c2
          obtain ⟨ec0, ec1, ec2, ec3, ec4, ec5, ez⟩ := e9.c6
          have s6 : wr.heap.size ≠ bc := by omega
          have s7 : ba ≠ bc := by omega
          go_wp2_with fail
          refine (C9.out _).mono ?_
          rintro e w10 ⟨rfl, hb10⟩
          have p10 : Below w.heap.size w w10 := (by repeat' (first | with_reducible exact Below.refl _ _ | with_reducible assumption | with_reducible refine bel_drew ?_ | with_reducible refine bel_alloc ?_ _ | with_reducible refine bel_set ?_ ?_ _ | with_reducible refine bel_call ?_ (by assumption) | (dsimp only; omega) | (simp; done) | (simp; omega)))
          have q10 : Blk w10 bc [.int .u64 7, .bool cur.has, .int .u64 cur.bits, .bool m2.has, .int .u64 m2.bits, .int .i64 b] 26 := Blk.below (by repeat' (first | with_reducible assumption | (show (_ : List Value) = _; rfl) | with_reducible exact Blk.new _ _ rfl | (with_reducible refine Blk.new _ _ ?_; simp; done) | with_reducible apply Blk.set_eq | with_reducible apply Blk.other | with_reducible apply Blk.alloc | (simp; done) | (simp; omega))) hb10
          have v10 : Blk w10 ba [.bool cur.has, .int .u64 cur.bits] 24 := Blk.below (by repeat' (first | with_reducible assumption | (show (_ : List Value) = _; rfl) | with_reducible exact Blk.new _ _ rfl | (with_reducible refine Blk.new _ _ ?_; simp; done) | with_reducible apply Blk.set_eq | with_reducible apply Blk.other | with_reducible apply Blk.alloc | (simp; done) | (simp; omega))) hb10
          clear q9 v9 e9 d9 dc0 dc1 dc2 dc3 dc4 dc5 dz qc0 qc1 qc2 qc3 qc4 qc5 qz qf0 qf1 qf2 qf3 qf4 qf5 vc0 vc1 vz ec0 ec1 ec2 ec3 ec4 ec5 ez p9 hb10
          obtain ⟨vc0, vc1, vz⟩ := v10.c2
          obtain ⟨vf0, vf1, _⟩ := v10.f6
          go_wp2_with fail
          refine wp_world (X := fun W => ∃ (pv cu : V) (n3 : Int), Below w.heap.size w W ∧ Blk W bc [.int .u64 7, .bool pv.has, .int .u64 pv.bits, .bool cu.has, .int .u64 cu.bits, .int .i64 n3] 26 ∧ Blk W ba [.bool cu.has, .int .u64 cu.bits] 24 ∧ pv.ok ∧ cu.ok ∧ 0 ≤ n3 ∧ n3 ≤ b ∧ fitC k ⟨7, pv, cu, n3⟩ = true) ⟨cur, m2, b, (by repeat' (first | with_reducible exact Below.refl _ _ | with_reducible assumption | with_reducible refine bel_drew ?_ | with_reducible refine bel_alloc ?_ _ | with_reducible refine bel_set ?_ ?_ _ | with_reducible refine bel_call ?_ (by assumption) | (dsimp only; omega) | (simp; done) | (simp; omega))), (by repeat' (first | with_reducible assumption | (show (_ : List Value) = _; rfl) | with_reducible exact Blk.new _ _ rfl | (with_reducible refine Blk.new _ _ ?_; simp; done) | with_reducible apply Blk.set_eq | with_reducible apply Blk.other | with_reducible apply Blk.alloc | (simp; done) | (simp; omega))), (by repeat' (first | with_reducible assumption | (show (_ : List Value) = _; rfl) | with_reducible exact Blk.new _ _ rfl | (with_reducible refine Blk.new _ _ ?_; simp; done) | with_reducible apply Blk.set_eq | with_reducible apply Blk.other | with_reducible apply Blk.alloc | (simp; done) | (simp; omega))), O2.out, O3.out, (by have := HB.out; omega), Int.le_refl _, F3.out⟩ ?_
          clear q10 v10 vc0 vc1 vz vf0 vf1 p10
        case' true =>
          go_wp2_with fail
          refine wp_world (X := fun W => ∃ (pv cu : V) (n3 : Int), Below w.heap.size w W ∧ Blk W bc [.int .u64 7, .bool pv.has, .int .u64 pv.bits, .bool cu.has, .int .u64 cu.bits, .int .i64 n3] 26 ∧ Blk W ba [.bool cu.has, .int .u64 cu.bits] 24 ∧ pv.ok ∧ cu.ok ∧ 0 ≤ n3 ∧ n3 ≤ b ∧ fitC k ⟨7, pv, cu, n3⟩ = true) ⟨pv, cur, n2, p7, q7, v7, op, O2.out, l0, (by omega), ft⟩ ?_
          clear q7 v7 e7 qc0 qc1 qc2 qc3 qc4 qc5 qz vc0 vc1 vz ec0 ec1 ec2 ec3 ec4 ec5 ez p7
        all_goals
          clear op l0 l1 ft
          rintro w11 ⟨pv, cu, n3, p11, q11, v11, op, oc, l0, l1, ft⟩
          have c10 := C6.out pv cu n3 b l1
          have c11 := fun w => cfit_any k ⟨7, pv, cu, n3⟩ w ⟨op, oc⟩
          rw [ft] at c11
          have c12 := fun w => empty_any ⟨7, pv, cu, n3⟩ w
          have FT := Lib.hid ft
          clear ft
          obtain ⟨ph, pb⟩ := pv
          obtain ⟨ch, cb⟩ := cu
          unfold emptyC at c12
          dsimp only at c10 c11 c12 q11 v11
          obtain ⟨qc0, qc1, qc2, qc3, qc4, qc5, qz⟩ := q11.c6
          obtain ⟨vc0, vc1, vz⟩ := v11.c2
          have l2 : ¬ (b < n3) := by omega
          cases ph
          all_goals
            first | simp only [Bool.not_true, Bool.false_and] at c12 | simp only [Bool.not_false, Bool.true_and] at c12
            have C10 := Lib.hid c10
            have C11 := Lib.hid c11
            have C12 := Lib.hid c12
            clear c10 c11 c12
            refine wp_region_below (by kernel_rfl) (by kernel_rfl) ?_
            iterate 31 (first | (refine lex_skip (by rfl) (fun _ _ _ _ h => h) ?_; simp only [Act.put, List.setIfInBounds_toArray, List.set_cons_zero, List.set_cons_succ]) | (refine lex_op (by rfl) ?_; apply Exists.intro; refine ⟨?_, ?_⟩; ((intro _ _ _ _ hT; obtain ⟨hc, hf⟩ := bcell hT; go_simp; first | exact rfl | (with_reducible exact call_below hT (C10.out _)) | (with_reducible exact call_below hT (C11.out _)) | (with_reducible exact call_below hT (C12.out _)))); simp only [Act.put, List.setIfInBounds_toArray, List.set_cons_zero, List.set_cons_succ]))
            refine lex_nil ?_
            intro w12 hb12
            have p12 : Below w.heap.size w w12 := (by repeat' (first | with_reducible exact Below.refl _ _ | with_reducible assumption | with_reducible refine bel_drew ?_ | with_reducible refine bel_alloc ?_ _ | with_reducible refine bel_set ?_ ?_ _ | with_reducible refine bel_call ?_ (by assumption) | (dsimp only; omega) | (simp; done) | (simp; omega)))
            have q12 := q11.below hb12
            have v12 := v11.below hb12
            clear q11 v11 qc0 qc1 qc2 qc3 qc4 qc5 qz vc0 vc1 vz p11 hb12
            go_wp2_with fail
            go_roundg (len - (i + 1))
            case measure => omega
            case rel => exact ⟨i + 1, _, _, n3, hlt, rfl, (by rw [HB.out.1]; simp), p12, q12, v12, op, oc, l0, (by have := HB.out.1; omega), FT.out⟩
    · have hz2 : ¬ ((i : Int) < (len : Int)) := by omega
      have p := hJ.bel
      clear hJ
      go_wp2_with fail
      go_ret
      exact ⟨rfl, p⟩
end Go.Proofs.Ytelofaceadlfmaa
