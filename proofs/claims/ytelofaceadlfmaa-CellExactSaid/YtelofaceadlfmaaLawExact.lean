/- WALK of CellExact. -/
import Derived.Test.YtelofaceadlfmaaLawRow
import Derived.Test.YtelofaceadlfmaaRefD
import Derived.Deep.LoopGhost
namespace Go.Proofs.Ytelofaceadlfmaa
open Go.RowKit
open Fl (known fit merge V Cl applyC applyE revertC resolveC emptyC fitC)

structure Ac where
  kind : Int
  batch : Int
  part : V
structure Acs (w : World) (b o len : Nat) (f : Nat → Ac) : Prop where
  lt : b < w.heap.size
  ok : ∀ i, i < len → (f i).part.ok ∧ -9223372036854775808 ≤ (f i).batch ∧ (f i).batch ≤ 9223372036854775807
  c0 : ∀ i, i < len → w.cell? ⟨b, o + (i * 4 + 0), none⟩ = some (.int .i64 (f i).kind)
  c1 : ∀ i, i < len → w.cell? ⟨b, o + (i * 4 + 1), none⟩ = some (.int .i64 (f i).batch)
  c2 : ∀ i, i < len → w.cell? ⟨b, o + (i * 4 + 2), none⟩ = some (.bool (f i).part.has)
  c3 : ∀ i, i < len → w.cell? ⟨b, o + (i * 4 + 3), none⟩ = some (.int .u64 (f i).part.bits)
section
variable {w : World} {b : Nat} {t : TypeId}
theorem Blk.c4 {a0 a1 a2 a3 : Value} (h : Blk w b [a0, a1, a2, a3] t) :
    w.cell? ⟨b, 0, none⟩ = some a0 ∧ w.cell? ⟨b, 1, none⟩ = some a1 ∧ w.cell? ⟨b, 2, none⟩ = some a2 ∧ w.cell? ⟨b, 3, none⟩ = some a3 ∧ b < w.heap.size :=
  ⟨h.cell 0, h.cell 1, h.cell 2, h.cell 3, h.lt⟩
end
theorem Blk.store6 {w : World} {b : Nat} {t : TypeId} {a0 a1 a2 a3 a4 a5 v0 v1 v2 v3 v4 v5 : Value} (h : Blk w b [a0, a1, a2, a3, a4, a5] t) :
    Blk ((((((w.setCell ⟨b, 0, none⟩ v0).setCell ⟨b, 1, none⟩ v1).setCell ⟨b, 2, none⟩ v2).setCell ⟨b, 3, none⟩ v3).setCell ⟨b, 4, none⟩ v4).setCell ⟨b, 5, none⟩ v5) b [v0, v1, v2, v3, v4, v5] t :=
  (((((h.set 0 v0).set 1 v1).set 2 v2).set 3 v3).set 4 v4).set 5 v5
theorem Blk.other6 {w : World} {b c : Nat} {t : TypeId} {cs : List Value} {v0 v1 v2 v3 v4 v5 : Value} (h : Blk w b cs t) (hne : b ≠ c) :
    Blk ((((((w.setCell ⟨c, 0, none⟩ v0).setCell ⟨c, 1, none⟩ v1).setCell ⟨c, 2, none⟩ v2).setCell ⟨c, 3, none⟩ v3).setCell ⟨c, 4, none⟩ v4).setCell ⟨c, 5, none⟩ v5) b cs t :=
  (((((h.other hne v0).other hne v1).other hne v2).other hne v3).other hne v4).other hne v5
def inI (b : Int) : Prop := -9223372036854775808 ≤ b ∧ b ≤ 9223372036854775807
theorem applyC_in {k : Int} {c : Cl} {b : Int} {p : V} (h : inI b) : inI (applyC k c b p).batch := by
  unfold applyC
  split
  · exact ⟨by decide, by decide⟩
  · exact h
theorem revertC_in {c : Cl} {b : Int} (h : inI c.batch) (hb : inI b) : inI (revertC c b).batch := by
  unfold revertC
  split
  · rename_i h'
    obtain ⟨_, h2⟩ := h'
    exact ⟨by have := hb.1; show _ ≤ b - 1; omega, by have := hb.2; show b - 1 ≤ _; omega⟩
  · exact h
/-- what holds at the loop's head -/
structure ExJ (w : World) (bc bd : Nat) (c : Cl) (wr : World) : Prop where
  bel : Below w.heap.size w wr
  cc : Blk wr bc [.int .u64 c.key, .bool c.prev.has, .int .u64 c.prev.bits, .bool c.cur.has, .int .u64 c.cur.bits, .int .i64 c.batch] 26
  cd : Blk wr bd [.int .u64 c.key, .bool c.prev.has, .int .u64 c.prev.bits, .bool c.cur.has, .int .u64 c.cur.bits, .int .i64 c.batch] 26
  ok : c.ok
  inn : inI c.batch

set_option maxRecDepth 100000 in
set_option maxHeartbeats 20000000 in
theorem exact_main (k : Int) (c0 : Cl) (a : Option Addr) (len cap rb ro : Nat) (f : Nat → Ac) (w : World) (hc : c0.ok) (hcb : inI c0.batch) (hln : len ≤ 9223372036854775807) (ha : 0 < len → a = some ⟨rb, ro, none⟩) (hr : 0 < len → Acs w rb ro len f) :
    Calls Try.prog 3 #[.int .i64 k, .agg #[.int .u64 c0.key, .bool c0.prev.has, .int .u64 c0.prev.bits, .bool c0.cur.has, .int .u64 c0.cur.bits, .int .i64 c0.batch], .slice a len cap] w fun e w' => e = .returned (.bool true) ∧ Below w.heap.size w w' := by
  have C1 := Lib.hid awake_any
  have CE := Lib.hid empty_any
  have CR := Lib.hid rempty_any
  have CF := Lib.hid (cfit_any k)
  have CG := Lib.hid (rcfit_any k)
  have CV := Lib.hid resolve_any
  have CW := Lib.hid rresolve_any
  have HA := Lib.hid ha
  have HR := Lib.hid hr
  have HC := Lib.hid hc
  have HI : Hid (inI c0.batch) := Lib.hid hcb
  have HL := Lib.hid hln
  clear ha hr hc hcb hln
  go_enter Try.func3, Try.ntmps3
  go_wp2_with fail
  refine (C1.out _).mono ?_
  rintro e w1 ⟨rfl, hb1⟩
  have q1 : Blk w1 w.heap.size [.int .u64 c0.key, .bool c0.prev.has, .int .u64 c0.prev.bits, .bool c0.cur.has, .int .u64 c0.cur.bits, .int .i64 c0.batch] 26 := (Blk.new _ _ rfl).below hb1
  have p1 : Below w.heap.size w w1 := (by repeat' (first | with_reducible exact Below.refl _ _ | with_reducible assumption | with_reducible refine bel_drew ?_ | with_reducible refine bel_alloc ?_ _ | with_reducible refine bel_set ?_ ?_ _ | with_reducible refine bel_call ?_ (by assumption) | (dsimp only; omega) | (simp; done) | (simp; omega)))
  obtain ⟨qc0, qc1, qc2, qc3, qc4, qc5, qz⟩ := q1.c6
  clear hb1
  go_wp2_with fail
  refine wp_world (X := fun W => ExJ w w.heap.size w1.heap.size c0 W) ⟨(by repeat' (first | with_reducible exact Below.refl _ _ | with_reducible assumption | with_reducible refine bel_drew ?_ | with_reducible refine bel_alloc ?_ _ | with_reducible refine bel_set ?_ ?_ _ | with_reducible refine bel_call ?_ (by assumption) | (dsimp only; omega) | (simp; done) | (simp; omega))), (by repeat' (first | with_reducible assumption | (show (_ : List Value) = _; rfl) | with_reducible exact Blk.new _ _ rfl | (with_reducible refine Blk.new _ _ ?_; simp; done) | with_reducible apply Blk.set_eq | with_reducible apply Blk.other | with_reducible apply Blk.alloc | (simp; done) | (simp; omega))), (by repeat' (first | with_reducible assumption | (show (_ : List Value) = _; rfl) | with_reducible exact Blk.new _ _ rfl | (with_reducible refine Blk.new _ _ ?_; simp; done) | with_reducible apply Blk.set_eq | with_reducible apply Blk.other | with_reducible apply Blk.alloc | (simp; done) | (simp; omega))), HC.out, HI.out⟩ ?_
  intro w2 J2
  have s1 : w.heap.size < w1.heap.size := qz
  have s3 : w1.heap.size ≠ w.heap.size := by omega
  have s2 : w.heap.size ≠ w1.heap.size := by omega
  clear q1 qc0 qc1 qc2 qc3 qc4 qc5 qz p1 C1
  generalize w1.heap.size = bd at *
  clear w1
  go_loopg [8] len (fun g s8 wr => ∃ (i : Nat) (c : Cl), i ≤ len ∧ g = len - i ∧ s8 = .int .i64 i ∧ ExJ w w.heap.size bd c wr)
  case atStart => exact ⟨0, c0, Nat.zero_le _, rfl, rfl, J2⟩
  case round =>
    clear J2
    obtain ⟨i, c, hi, rfl, rfl, hJ⟩ := hrel
    have p := hJ.bel
    have qc := hJ.cc
    have qd := hJ.cd
    have HO := Lib.hid hJ.ok
    have HB : Hid (inI c.batch) := Lib.hid hJ.inn
    clear hJ
    obtain ⟨qc0, qc1, qc2, qc3, qc4, qc5, qz⟩ := qc.c6
    obtain ⟨dc0, dc1, dc2, dc3, dc4, dc5, dz⟩ := qd.c6
    by_cases hlt : i < len
    · obtain rfl := HA.out (by omega)
      have hr := HR.out (by omega)
      have rz : rb < wr.heap.size := Nat.lt_of_lt_of_le hr.lt p.size
      have x0 : wr.cell? ⟨rb, ro + i * 4, none⟩ = some (.int .i64 (f i).kind) := (p.cell (p := ⟨rb, ro + (i * 4 + 0), none⟩) hr.lt).trans (hr.c0 i hlt)
      have x1 : wr.cell? ⟨rb, ro + i * 4 + 1, none⟩ = some (.int .i64 (f i).batch) := (p.cell (p := ⟨rb, ro + (i * 4 + 1), none⟩) hr.lt).trans (hr.c1 i hlt)
      have x2 : wr.cell? ⟨rb, ro + i * 4 + 2, none⟩ = some (.bool (f i).part.has) := (p.cell (p := ⟨rb, ro + (i * 4 + 2), none⟩) hr.lt).trans (hr.c2 i hlt)
      have x3 : wr.cell? ⟨rb, ro + i * 4 + 3, none⟩ = some (.int .u64 (f i).part.bits) := (p.cell (p := ⟨rb, ro + (i * 4 + 3), none⟩) hr.lt).trans (hr.c3 i hlt)
      obtain ⟨hpo, hbi⟩ := hr.ok i hlt
      have HP := Lib.hid hpo
      have HI2 : Hid (inI (f i).batch) := Lib.hid hbi
      clear hr hpo hbi
      have hz2 : (i : Int) < (len : Int) := by omega
      have hw1 : IntKind.i64.wrap ((i : Int) + 1) = (i : Int) + 1 := Go.IntWalk.i64_in _ (by have := HL.out; omega)
      generalize f i = r at *
      obtain ⟨ak, b, part⟩ := r
      dsimp only at x0 x1 x2 x3 HP HI2
      have s4 : w.heap.size ≠ wr.heap.size := by omega
      have s5 : bd ≠ wr.heap.size := by omega
      have s6 : wr.heap.size ≠ w.heap.size := by omega
      have s7 : wr.heap.size ≠ bd := by omega
      by_cases hak : ak = 1
      case' neg =>
        have hak1 : (ak == 1) = false := by simpa using hak
        have C3 := Lib.hid (fun w => revert_any c b w HB.out)
        have C4 := Lib.hid (fun w => rrevert_any c b w HB.out)
        have OA : Hid (revertC c b).ok := Lib.hid (Fl.revertC_ok HO.out)
        have IA : Hid (inI (revertC c b).batch) := Lib.hid (revertC_in HB.out HI2.out)
        generalize revertC c b = A at *
        clear hak
        go_wp2_with fail
        refine (C3.out _).mono ?_
        rintro e w3 ⟨rfl, hb3⟩
        have p3 : Below w.heap.size w w3 := (by repeat' (first | with_reducible exact Below.refl _ _ | with_reducible assumption | with_reducible refine bel_drew ?_ | with_reducible refine bel_alloc ?_ _ | with_reducible refine bel_set ?_ ?_ _ | with_reducible refine bel_call ?_ (by assumption) | (dsimp only; omega) | (simp; done) | (simp; omega)))
        have c3 := (qc.alloc (.cells #[.int .i64 ak, .int .i64 b, .bool part.has, .int .u64 part.bits] 30)).below hb3
        have d3 := (qd.alloc (.cells #[.int .i64 ak, .int .i64 b, .bool part.has, .int .u64 part.bits] 30)).below hb3
        have e3 := (Blk.new (w := wr) [.int .i64 ak, .int .i64 b, .bool part.has, .int .u64 part.bits] 30 rfl).below hb3
        clear qc qd qc0 qc1 qc2 qc3 qc4 qc5 qz dc0 dc1 dc2 dc3 dc4 dc5 dz x0 x1 x2 x3 rz p hb3 C3
        obtain ⟨dc0, dc1, dc2, dc3, dc4, dc5, dz⟩ := d3.c6
        obtain ⟨ec0, ec1, ec2, ec3, ez⟩ := e3.c4
        obtain ⟨qf0, qf1, qf2, qf3, qf4, qf5⟩ := c3.f6
        obtain ⟨qc0, qc1, qc2, qc3, qc4, qc5, qz⟩ := c3.c6
        go_wp2_with fail
        refine (C4.out _).mono ?_
        rintro e w4 ⟨rfl, hb4⟩
        have p4 : Below w.heap.size w w4 := (by repeat' (first | with_reducible exact Below.refl _ _ | with_reducible assumption | with_reducible refine bel_drew ?_ | with_reducible refine bel_alloc ?_ _ | with_reducible refine bel_set ?_ ?_ _ | with_reducible refine bel_call ?_ (by assumption) | (dsimp only; omega) | (simp; done) | (simp; omega)))
        have c4 : Blk w4 w.heap.size [.int .u64 A.key, .bool A.prev.has, .int .u64 A.prev.bits, .bool A.cur.has, .int .u64 A.cur.bits, .int .i64 A.batch] 26 := (c3.store6).below hb4
        have d4 : Blk w4 bd [.int .u64 c.key, .bool c.prev.has, .int .u64 c.prev.bits, .bool c.cur.has, .int .u64 c.cur.bits, .int .i64 c.batch] 26 := (d3.other6 s3).below hb4
        have e4 : Blk w4 wr.heap.size [.int .i64 ak, .int .i64 b, .bool part.has, .int .u64 part.bits] 30 := (e3.other6 s6).below hb4
        clear c3 d3 e3 dc0 dc1 dc2 dc3 dc4 dc5 dz qc0 qc1 qc2 qc3 qc4 qc5 qz qf0 qf1 qf2 qf3 qf4 qf5 ec0 ec1 ec2 ec3 ez p3 hb4 C4
        obtain ⟨dc0, dc1, dc2, dc3, dc4, dc5, dz⟩ := d4.c6
        obtain ⟨df0, df1, df2, df3, df4, df5⟩ := d4.f6
        go_wp2_with fail
        refine wp_world (X := fun W => ∃ (c' : Cl) (k2 : Int), ExJ w w.heap.size bd c' W ∧ Blk W wr.heap.size [.int .i64 k2, .int .i64 b, .bool part.has, .int .u64 part.bits] 30) ⟨A, ak, ⟨(by repeat' (first | with_reducible exact Below.refl _ _ | with_reducible assumption | with_reducible refine bel_drew ?_ | with_reducible refine bel_alloc ?_ _ | with_reducible refine bel_set ?_ ?_ _ | with_reducible refine bel_call ?_ (by assumption) | (dsimp only; omega) | (simp; done) | (simp; omega))), c4.other6 s2, d4.store6, OA.out, IA.out⟩, e4.other6 s7⟩ ?_
        clear c4 d4 e4 dc0 dc1 dc2 dc3 dc4 dc5 dz df0 df1 df2 df3 df4 df5 p4 OA IA HO HB HP HI2 hak1
      case' pos =>
        subst hak
        have C3 := Lib.hid (fun w => apply_any k c b part w HO.out HP.out)
        have C4 := Lib.hid (fun w => rapply_any k c b part w HO.out HP.out)
        have OA := Lib.hid (Fl.applyC_ok (k := k) (b := b) HO.out HP.out)
        have IA : Hid (inI (applyC k c b part).batch) := Lib.hid (applyC_in HI2.out)
        generalize applyC k c b part = A at *
        generalize applyE k c b = E at *
        have hE : (E != E) = false := by simp
        go_wp2_with fail
        refine (C3.out _).mono ?_
        rintro e w3 ⟨rfl, hb3⟩
        have p3 : Below w.heap.size w w3 := (by repeat' (first | with_reducible exact Below.refl _ _ | with_reducible assumption | with_reducible refine bel_drew ?_ | with_reducible refine bel_alloc ?_ _ | with_reducible refine bel_set ?_ ?_ _ | with_reducible refine bel_call ?_ (by assumption) | (dsimp only; omega) | (simp; done) | (simp; omega)))
        have c3 := (qc.alloc (.cells #[.int .i64 1, .int .i64 b, .bool part.has, .int .u64 part.bits] 30)).below hb3
        have d3 := (qd.alloc (.cells #[.int .i64 1, .int .i64 b, .bool part.has, .int .u64 part.bits] 30)).below hb3
        have e3 := (Blk.new (w := wr) [.int .i64 1, .int .i64 b, .bool part.has, .int .u64 part.bits] 30 rfl).below hb3
        clear qc qd qc0 qc1 qc2 qc3 qc4 qc5 qz dc0 dc1 dc2 dc3 dc4 dc5 dz x0 x1 x2 x3 rz p hb3 C3
        obtain ⟨dc0, dc1, dc2, dc3, dc4, dc5, dz⟩ := d3.c6
        obtain ⟨ec0, ec1, ec2, ec3, ez⟩ := e3.c4
        go_wp2_with fail
        refine (C4.out _).mono ?_
        rintro e w4 ⟨rfl, hb4⟩
        have p4 : Below w.heap.size w w4 := (by repeat' (first | with_reducible exact Below.refl _ _ | with_reducible assumption | with_reducible refine bel_drew ?_ | with_reducible refine bel_alloc ?_ _ | with_reducible refine bel_set ?_ ?_ _ | with_reducible refine bel_call ?_ (by assumption) | (dsimp only; omega) | (simp; done) | (simp; omega)))
        have c4 := (c3.alloc _).below hb4
        have d4 := (d3.alloc _).below hb4
        have e4 := (e3.alloc _).below hb4
        have x4 := (Blk.new (w := w3) [.int .u64 A.key, .bool A.prev.has, .int .u64 A.prev.bits, .bool A.cur.has, .int .u64 A.cur.bits, .int .i64 A.batch] 26 rfl).below hb4
        clear c3 d3 e3 dc0 dc1 dc2 dc3 dc4 dc5 dz ec0 ec1 ec2 ec3 ez p3 hb4 C4
        have t1 := c4.lt
        have t2 := d4.lt
        have t3 := e4.lt
        obtain ⟨xc0, xc1, xc2, xc3, xc4, xc5, xz⟩ := x4.c6
        obtain ⟨qc0, qc1, qc2, qc3, qc4, qc5, qz⟩ := c4.c6
        obtain ⟨dc0, dc1, dc2, dc3, dc4, dc5, dz⟩ := d4.c6
        obtain ⟨qf0, qf1, qf2, qf3, qf4, qf5⟩ := c4.f6
        obtain ⟨df0, df1, df2, df3, df4, df5⟩ := d4.f6
        by_cases hE0 : E = 0
        case' pos =>
          subst hE0
          go_wp2_with fail
          refine wp_world (X := fun W => ∃ (c' : Cl) (k2 : Int), ExJ w w.heap.size bd c' W ∧ Blk W wr.heap.size [.int .i64 k2, .int .i64 b, .bool part.has, .int .u64 part.bits] 30) ⟨A, 1, ⟨(by repeat' (first | with_reducible exact Below.refl _ _ | with_reducible assumption | with_reducible refine bel_drew ?_ | with_reducible refine bel_alloc ?_ _ | with_reducible refine bel_set ?_ ?_ _ | with_reducible refine bel_call ?_ (by assumption) | (dsimp only; omega) | (simp; done) | (simp; omega))), ((c4.store6).other6 s2).alloc _, ((d4.other6 s3).store6).alloc _, OA.out, IA.out⟩, ((e4.other6 s6).other6 s7).alloc _⟩ ?_
          clear c4 d4 e4 x4 t1 t2 t3 xc0 xc1 xc2 xc3 xc4 xc5 xz qc0 qc1 qc2 qc3 qc4 qc5 qz dc0 dc1 dc2 dc3 dc4 dc5 dz qf0 qf1 qf2 qf3 qf4 qf5 df0 df1 df2 df3 df4 df5 p4 OA IA HO HB HP HI2 hE
        case' neg =>
          have hE1 : (E == 0) = false := by simpa using hE0
          clear hE0
          go_wp2_with fail
          refine wp_world (X := fun W => ∃ (c' : Cl) (k2 : Int), ExJ w w.heap.size bd c' W ∧ Blk W wr.heap.size [.int .i64 k2, .int .i64 b, .bool part.has, .int .u64 part.bits] 30) ⟨c, 1, ⟨(by repeat' (first | with_reducible exact Below.refl _ _ | with_reducible assumption | with_reducible refine bel_drew ?_ | with_reducible refine bel_alloc ?_ _ | with_reducible refine bel_set ?_ ?_ _ | with_reducible refine bel_call ?_ (by assumption) | (dsimp only; omega) | (simp; done) | (simp; omega))), c4.alloc _, d4.alloc _, HO.out, HB.out⟩, e4.alloc _⟩ ?_
          clear c4 d4 e4 x4 t1 t2 t3 xc0 xc1 xc2 xc3 xc4 xc5 xz qc0 qc1 qc2 qc3 qc4 qc5 qz dc0 dc1 dc2 dc3 dc4 dc5 dz qf0 qf1 qf2 qf3 qf4 qf5 df0 df1 df2 df3 df4 df5 p4 OA IA HO HB HP HI2 hE hE1
      all_goals
        generalize wr.heap.size = be at *
        rintro w5 ⟨c', k2, J5, e5⟩
        have p5 := J5.bel
        have HO := Lib.hid J5.ok
        have HB : Hid (inI c'.batch) := Lib.hid J5.inn
        have q5 := J5.cc
        have d5 := J5.cd
        clear J5
        obtain ⟨qc0, qc1, qc2, qc3, qc4, qc5, qz⟩ := q5.c6
        obtain ⟨dc0, dc1, dc2, dc3, dc4, dc5, dz⟩ := d5.c6
        refine wp_region_below (by kernel_rfl) (by kernel_rfl) ?_
        iterate 19 (first | (refine lex_skip (by rfl) (fun _ _ _ _ h => h) ?_; simp only [Act.put, List.setIfInBounds_toArray, List.set_cons_zero, List.set_cons_succ]) | (refine lex_op (by rfl) ?_; apply Exists.intro; refine ⟨?_, ?_⟩; ((intro _ _ _ _ hT; obtain ⟨hc, hf⟩ := bcell hT; go_simp; first | exact rfl | (with_reducible exact call_below hT (CE.out c' _)) | (with_reducible exact call_below hT (CR.out c' _)) | (with_reducible exact call_below hT (CF.out c' _ HO.out)) | (with_reducible exact call_below hT (CG.out c' _ HO.out)))); simp only [Act.put, List.setIfInBounds_toArray, List.set_cons_zero, List.set_cons_succ]))
        refine lex_nil ?_
        intro w6 hb6
        have J6 : ExJ w w.heap.size bd c' w6 := ⟨(by repeat' (first | with_reducible exact Below.refl _ _ | with_reducible assumption | with_reducible refine bel_drew ?_ | with_reducible refine bel_alloc ?_ _ | with_reducible refine bel_set ?_ ?_ _ | with_reducible refine bel_call ?_ (by assumption) | (dsimp only; omega) | (simp; done) | (simp; omega))), q5.below hb6, d5.below hb6, HO.out, HB.out⟩
        have e6 := e5.below hb6
        clear q5 d5 e5 qc0 qc1 qc2 qc3 qc4 qc5 qz dc0 dc1 dc2 dc3 dc4 dc5 dz p5 hb6
        go_wp2_with fail
        go_loopg [14] 3 (fun g s14 wi => ∃ j : Int, ((j = 0 ∧ g = 3) ∨ (j = 1 ∧ g = 2) ∨ (j = 2 ∧ g = 1) ∨ (j = 3 ∧ g = 0)) ∧ s14 = .int .i64 j ∧ ExJ w w.heap.size bd c' wi ∧ Blk wi be [.int .i64 k2, .int .i64 b, .bool part.has, .int .u64 part.bits] 30)
        case atStart => exact ⟨0, .inl ⟨rfl, rfl⟩, rfl, J6, e6⟩
        case round =>
          clear J6 e6
          obtain ⟨j, hj, rfl, J7, e7⟩ := hrel
          have p7 := J7.bel
          have q7 := J7.cc
          have d7 := J7.cd
          obtain ⟨qc0, qc1, qc2, qc3, qc4, qc5, qz⟩ := q7.c6
          obtain ⟨dc0, dc1, dc2, dc3, dc4, dc5, dz⟩ := d7.c6
          obtain ⟨ec0, ec1, ec2, ec3, ez⟩ := e7.c4
          rcases hj with ⟨rfl, rfl⟩ | ⟨rfl, rfl⟩ | ⟨rfl, rfl⟩ | ⟨rfl, rfl⟩
          case' inr.inr.inr =>
            clear q7 d7 e7 qc0 qc1 qc2 qc3 qc4 qc5 qz dc0 dc1 dc2 dc3 dc4 dc5 dz ec0 ec1 ec2 ec3 ez p7
            go_wp2_with fail
            go_roundg (len - (i + 1))
            case measure => omega
            case rel => exact ⟨i + 1, c', hlt, rfl, (by first | rfl | simp), J7⟩
          all_goals
            clear J7
            go_wp2_with fail
            refine wp_region_below (by kernel_rfl) (by kernel_rfl) ?_
            iterate 11 (first | (refine lex_skip (by rfl) (fun _ _ _ _ h => h) ?_; simp only [Act.put, List.setIfInBounds_toArray, List.set_cons_zero, List.set_cons_succ]) | (refine lex_op (by rfl) ?_; apply Exists.intro; refine ⟨?_, ?_⟩; ((intro _ _ _ _ hT; obtain ⟨hc, hf⟩ := bcell hT; go_simp; first | exact rfl | (with_reducible exact call_below hT (CV.out c' _ _)) | (with_reducible exact call_below hT (CW.out c' _ _)))); simp only [Act.put, List.setIfInBounds_toArray, List.set_cons_zero, List.set_cons_succ]))
            refine lex_nil ?_
            intro w8 hb8
            have J8 : ExJ w w.heap.size bd c' w8 := ⟨(by repeat' (first | with_reducible exact Below.refl _ _ | with_reducible assumption | with_reducible refine bel_drew ?_ | with_reducible refine bel_alloc ?_ _ | with_reducible refine bel_set ?_ ?_ _ | with_reducible refine bel_call ?_ (by assumption) | (dsimp only; omega) | (simp; done) | (simp; omega))), (q7.alloc _).below hb8, (d7.alloc _).below hb8, HO.out, HB.out⟩
            have e8 := (e7.alloc _).below hb8
            clear q7 d7 e7 qc0 qc1 qc2 qc3 qc4 qc5 qz dc0 dc1 dc2 dc3 dc4 dc5 dz ec0 ec1 ec2 ec3 ez p7 hb8
            go_wp2_with fail
            first
              | (go_roundg 2
                 case measure => decide
                 case rel => exact ⟨1, .inr (.inl ⟨rfl, rfl⟩), rfl, J8, e8⟩)
              | (go_roundg 1
                 case measure => decide
                 case rel => exact ⟨2, .inr (.inr (.inl ⟨rfl, rfl⟩)), rfl, J8, e8⟩)
              | (go_roundg 0
                 case measure => decide
                 case rel => exact ⟨3, .inr (.inr (.inr ⟨rfl, rfl⟩)), rfl, J8, e8⟩)
    · have hz2 : ¬ ((i : Int) < (len : Int)) := by omega
      go_wp2_with fail
      refine wp_region_below (by kernel_rfl) (by kernel_rfl) ?_
      iterate 15 (first | (refine lex_skip (by rfl) (fun _ _ _ _ h => h) ?_; simp only [Act.put, List.setIfInBounds_toArray, List.set_cons_zero, List.set_cons_succ]) | (refine lex_op (by rfl) ?_; apply Exists.intro; refine ⟨?_, ?_⟩; ((intro _ _ _ _ hT; obtain ⟨hc, hf⟩ := bcell hT; go_simp; first | exact rfl | (with_reducible exact call_below hT (CF.out c _ HO.out)) | (with_reducible exact call_below hT (CG.out c _ HO.out)) | (with_reducible exact call_below hT (CV.out c _ _)) | (with_reducible exact call_below hT (CW.out c _ _)))); simp only [Act.put, List.setIfInBounds_toArray, List.set_cons_zero, List.set_cons_succ]))
      refine lex_nil ?_
      intro w8 hb8
      have p8 : Below w.heap.size w w8 := (by repeat' (first | with_reducible exact Below.refl _ _ | with_reducible assumption | with_reducible refine bel_drew ?_ | with_reducible refine bel_alloc ?_ _ | with_reducible refine bel_set ?_ ?_ _ | with_reducible refine bel_call ?_ (by assumption) | (dsimp only; omega) | (simp; done) | (simp; omega)))
      clear qc qd qc0 qc1 qc2 qc3 qc4 qc5 qz dc0 dc1 dc2 dc3 dc4 dc5 dz p hb8
      go_wp2_with fail
      go_ret
      exact ⟨rfl, (by repeat' (first | with_reducible exact Below.refl _ _ | with_reducible assumption | with_reducible refine bel_drew ?_ | with_reducible refine bel_alloc ?_ _ | with_reducible refine bel_set ?_ ?_ _ | with_reducible refine bel_call ?_ (by assumption) | (dsimp only; omega) | (simp; done) | (simp; omega)))⟩
end Go.Proofs.Ytelofaceadlfmaa
