/- WALKS of SpoutForms, SpoutAgain. -/
import Derived.Test.YtbckfoldjlgabaaSpX
namespace Go.Proofs.Ytbckfoldjlgabaa
open Go.RowKit Go.Maps
open Fl (nan key canon)
set_option maxRecDepth 100000 in
set_option maxHeartbeats 16000000 in
theorem lforms_any {z k : Int} {rv av ov v : Value} {rl : List Rc} {al ol l : List Int} {w : World} (hr : Recs w rv rl) (ha : Ints w av al) (ho : Ints w ov ol) (hv : Ints w v l) :
    Calls Try.prog 3 #[.agg #[.int .i64 z, rv, av, ov], v, .int .i64 k] w fun e w' => e = .returned (.bool true) ∧ Below w.heap.size w w' := by
  have C0 := Lib.hid (fun W => pawake_any W)
  have C1 := Lib.hid (fun W => sform_nil (v := v) (k := k) W)
  have C2 := Lib.hid (fun W (hW : Below w.heap.size w W) (h1 : 1 ≤ z) (h4 : z ≤ 4) => filled_any (z := z) (hr.keep hW) (ha.keep hW) (ho.keep hW) h1 h4)
  have C3 := Lib.hid (fun W (hW : Below w.heap.size w W) (h : z < 1 ∨ 4 < z) => filled_none (z := z) (hr.keep hW) (ha.keep hW) (ho.keep hW) h)
  have HV := Lib.hid hv
  obtain ⟨ra, rn, rcap, _, _, _, rfl, -⟩ := hr
  obtain ⟨aa, an, acap, _, _, _, rfl, -⟩ := ha
  obtain ⟨oa, on, ocap, _, _, _, rfl, -⟩ := ho
  clear hv
  go_enter Try.func3, Try.ntmps3
  go_wp2_with fail
  refine (C0.out _).mono ?_
  rintro e w1 ⟨rfl, b1⟩
  have B1 : Blk w1 w.heap.size [.int .i64 z, .slice ra rn rcap, .slice aa an acap, .slice oa on ocap] 25 := Blk.below (by repeat' (first | with_reducible assumption | (show (_ : List Value) = _; rfl) | with_reducible exact Blk.new _ _ rfl | (with_reducible refine Blk.new _ _ ?_; simp; done) | with_reducible apply Blk.set_eq | with_reducible apply Blk.other | with_reducible apply Blk.alloc | with_reducible apply Blk.drew | (simp; done) | (simp; omega))) b1
  have p1 : Below w.heap.size w w1 := (by repeat' (first | with_reducible exact Below.refl _ _ | with_reducible assumption | with_reducible refine bel_drew ?_ | with_reducible refine bel_alloc ?_ _ | with_reducible refine bel_set ?_ ?_ _ | with_reducible refine bel_call ?_ (by assumption) | (dsimp only; omega) | (simp; done) | (simp; omega)))
  clear b1
  go_wp2_with fail
  refine (C1.out _).mono ?_
  rintro e w' ⟨rfl, rfl⟩
  clear C0 C1
  have c0 : w1.cell? ⟨w.heap.size, 0, none⟩ = some (.int .i64 z) := B1.cell 0
  have c1 : w1.cell? ⟨w.heap.size, 1, none⟩ = some (.slice ra rn rcap) := B1.cell 1
  have c2 : w1.cell? ⟨w.heap.size, 2, none⟩ = some (.slice aa an acap) := B1.cell 2
  have c3 : w1.cell? ⟨w.heap.size, 3, none⟩ = some (.slice oa on ocap) := B1.cell 3
  have nB := B1.lt
  clear B1
  by_cases hz : 1 ≤ z ∧ z ≤ 4
  · go_wp2_with fail
    refine (C2.out _ p1 hz.1 hz.2).mono ?_
    rintro e w2 ⟨sb, tb, rfl, two, b2⟩
    have p2 : Below w.heap.size w w2 := p1.trans (b2.mono p1.size)
    obtain ⟨pb, mb, lv, lg, gb, ob, lv', lg', hS, hT, _⟩ := two.out
    have hI := HV.out.keep p2
    have CF := Lib.hid (sform_any (k := k) hS.src hI)
    have CR := Lib.hid (fun W (hW : Below w2.heap.size w2 W) => rform_any (k := k) (hT.src.keep hW) (hI.keep hW))
    clear two hS hT hI b2 c0 c1 c2 c3 nB p1 C2 C3
    generalize form (fill z rl al ol) l k = F at *
    obtain ⟨F1, F2, F3⟩ := F
    dsimp only at CF CR
    have hE : (F3 == F3) = true := by simp
    go_wp2_with fail
    refine CF.out.mono ?_
    rintro e w3 ⟨r, r', rfl, o1, o2, b3⟩
    have p3 : Below w.heap.size w w3 := p2.trans (b3.mono p2.size)
    have I1 := Lib.hid o1.ints
    have I2 := Lib.hid o2.recs
    have B3 := Lib.hid b3
    clear o1 o2 b3 CF p2
    go_wp2_with fail
    refine (CR.out _ B3.out).mono ?_
    rintro e w4 ⟨s, s', rfl, o1, o2, b4⟩
    have p4 : Below w.heap.size w w4 := p3.trans (b4.mono p3.size)
    have J1 := Lib.hid (I1.out.keep b4)
    have J2 := Lib.hid (I2.out.keep b4)
    have K1 := Lib.hid o1.ints
    have K2 := Lib.hid o2.recs
    clear o1 o2 b4 CR p3 I1 I2 B3
    go_wp2_with fail
    refine (ints_true _ J1.out K1.out).mono ?_
    rintro e w5 ⟨rfl, b5⟩
    have p5 : Below w.heap.size w w5 := p4.trans (b5.mono p4.size)
    have J3 := Lib.hid (J2.out.keep b5)
    have K3 := Lib.hid (K2.out.keep b5)
    clear b5 J1 J2 K1 K2 p4
    go_wp2_with fail
    refine (records_true _ J3.out K3.out).mono ?_
    rintro e w6 ⟨rfl, b6⟩
    have p6 : Below w.heap.size w w6 := p5.trans (b6.mono p5.size)
    clear b6 J3 K3 p5
    go_wp2_with fail
    go_ret
    exact ⟨rfl, p6⟩
  · go_wp2_with fail
    refine (C3.out _ p1 (by omega)).mono ?_
    rintro e w2 ⟨rfl, b2⟩
    have p2 : Below w.heap.size w w2 := p1.trans (b2.mono p1.size)
    clear b2
    go_wp2_with fail
    go_ret
    exact ⟨rfl, p2⟩
end Go.Proofs.Ytbckfoldjlgabaa
