/- WALK of SpoutAgain. -/
import Derived.Test.YtbckfoldjlgabaaSpY
namespace Go.Proofs.Ytbckfoldjlgabaa
open Go.RowKit Go.Maps
open Fl (nan key canon)
set_option maxRecDepth 100000 in
set_option maxHeartbeats 16000000 in
theorem lagain_any {z : Int} {rv av ov v v' : Value} {rl : List Rc} {al ol l l' : List Int} {w : World} (hr : Recs w rv rl) (ha : Ints w av al) (ho : Ints w ov ol) (hv : Ints w v l) (hv' : Ints w v' l') :
    Calls Try.prog 4 #[.agg #[.int .i64 z, rv, av, ov], v, v'] w fun e w' => e = .returned (.bool true) ∧ Below w.heap.size w w' := by
  have C0 := Lib.hid (fun W => pawake_any W)
  have CF := Lib.hid (fun W (hW : Below w.heap.size w W) => forward_any W (hv.keep hW) (hv'.keep hW))
  have CR := Lib.hid (fun W (hW : Below w.heap.size w W) => rforward_any W (hv.keep hW) (hv'.keep hW))
  have CN := Lib.hid (fun W (hW : Below w.heap.size w W) => sagain_nil W (hv.keep hW) (hv'.keep hW))
  have CL := Lib.hid (fun W => sleft_nil v W)
  have C2 := Lib.hid (fun W (hW : Below w.heap.size w W) (h1 : 1 ≤ z) (h4 : z ≤ 4) => filled_any (z := z) (hr.keep hW) (ha.keep hW) (ho.keep hW) h1 h4)
  have C3 := Lib.hid (fun W (hW : Below w.heap.size w W) (h : z < 1 ∨ 4 < z) => filled_none (z := z) (hr.keep hW) (ha.keep hW) (ho.keep hW) h)
  have HV := Lib.hid hv
  have HV' := Lib.hid hv'
  have hE0 : (fwd l l' != fwd l l') = false := by simp
  obtain ⟨ra, rn, rcap, _, _, _, rfl, -⟩ := hr
  obtain ⟨aa, an, acap, _, _, _, rfl, -⟩ := ha
  obtain ⟨oa, on, ocap, _, _, _, rfl, -⟩ := ho
  clear hv hv'
  generalize fwd l l' = ff at *
  go_enter Try.func4, Try.ntmps4
  go_wp2_with fail
  refine (C0.out _).mono ?_
  rintro e w1 ⟨rfl, b1⟩
  have B1 : Blk w1 w.heap.size [.int .i64 z, .slice ra rn rcap, .slice aa an acap, .slice oa on ocap] 25 := Blk.below (by repeat' (first | with_reducible assumption | (show (_ : List Value) = _; rfl) | with_reducible exact Blk.new _ _ rfl | (with_reducible refine Blk.new _ _ ?_; simp; done) | with_reducible apply Blk.set_eq | with_reducible apply Blk.other | with_reducible apply Blk.alloc | with_reducible apply Blk.drew | (simp; done) | (simp; omega))) b1
  have p1 : Below w.heap.size w w1 := (by repeat' (first | with_reducible exact Below.refl _ _ | with_reducible assumption | with_reducible refine bel_drew ?_ | with_reducible refine bel_alloc ?_ _ | with_reducible refine bel_set ?_ ?_ _ | with_reducible refine bel_call ?_ (by assumption) | (dsimp only; omega) | (simp; done) | (simp; omega)))
  clear b1
  go_wp2_with fail
  refine (CF.out _ p1).mono ?_
  rintro e w2 ⟨rfl, b2⟩
  have p2 : Below w.heap.size w w2 := p1.trans (b2.mono p1.size)
  go_wp2_with fail
  refine (CR.out _ p2).mono ?_
  rintro e w3 ⟨rfl, b3⟩
  have p3 : Below w.heap.size w w3 := p2.trans (b3.mono p2.size)
  go_wp2_with fail
  refine (CN.out _ p3).mono ?_
  rintro e w4 ⟨rfl, b4⟩
  have p4 : Below w.heap.size w w4 := p3.trans (b4.mono p3.size)
  have B4 := ((B1.below b2).below b3).below b4
  go_wp2_with fail
  refine (CL.out _).mono ?_
  rintro e w' ⟨rfl, rfl⟩
  clear C0 CF CR CN CL b2 b3 b4 p1 p2 p3 B1 hE0
  have c0 : w4.cell? ⟨w.heap.size, 0, none⟩ = some (.int .i64 z) := B4.cell 0
  have c1 : w4.cell? ⟨w.heap.size, 1, none⟩ = some (.slice ra rn rcap) := B4.cell 1
  have c2 : w4.cell? ⟨w.heap.size, 2, none⟩ = some (.slice aa an acap) := B4.cell 2
  have c3 : w4.cell? ⟨w.heap.size, 3, none⟩ = some (.slice oa on ocap) := B4.cell 3
  have nB := B4.lt
  clear B4
  by_cases hz : 1 ≤ z ∧ z ≤ 4
  · go_wp2_with fail
    refine (C2.out _ p4 hz.1 hz.2).mono ?_
    rintro e w5 ⟨sb, tb, rfl, two, b5⟩
    have p5 : Below w.heap.size w w5 := p4.trans (b5.mono p4.size)
    obtain ⟨pb, mb, lv, lg, gb, ob, lv', lg', hS, hT, _⟩ := two.out
    have hI := HV.out.keep p5
    have hI' := HV'.out.keep p5
    have CA := Lib.hid (sagain_any hS.src hI hI')
    have CB := Lib.hid (fun W (hW : Below w5.heap.size w5 W) => ragain_any (hT.src.keep hW) (hI.keep hW) (hI'.keep hW))
    have CC := Lib.hid (fun W (hW : Below w5.heap.size w5 W) => sleft_any (hS.src.keep hW) (hI.keep hW))
    have CD := Lib.hid (fun W (hW : Below w5.heap.size w5 W) => rleft_any (hT.src.keep hW) (hI.keep hW))
    clear two hS hT hI hI' b5 c0 c1 c2 c3 nB p4 C2 C3 HV HV'
    generalize fill z rl al ol = S at *
    generalize again S l l' = F at *
    generalize left S l = G at *
    obtain ⟨F1, F2⟩ := F
    obtain ⟨G1, G2⟩ := G
    dsimp only at CA CB CC CD
    have hE1 : (F2 != F2) = false := by simp
    have hE2 : (G1 == G1) = true := by simp
    have hE3 : (G2 == G2) = true := by simp
    go_wp2_with fail
    refine CA.out.mono ?_
    rintro e w6 ⟨r, rfl, o1, b6⟩
    have p6 : Below w.heap.size w w6 := p5.trans (b6.mono p5.size)
    have I1 := Lib.hid o1.recs
    have B6 := Lib.hid b6
    clear o1 b6 CA
    go_wp2_with fail
    refine (CB.out _ B6.out).mono ?_
    rintro e w7 ⟨r2, rfl, o2, b7⟩
    have p7 : Below w.heap.size w w7 := p6.trans (b7.mono p6.size)
    have B7 := Lib.hid (B6.out.trans (b7.mono B6.out.size))
    have J1 := Lib.hid (I1.out.keep b7)
    have J2 := Lib.hid o2.recs
    clear o2 b7 CB I1 p6
    go_wp2_with fail
    refine (records_true _ J1.out J2.out).mono ?_
    rintro e w8 ⟨rfl, b8⟩
    have p8 : Below w.heap.size w w8 := p7.trans (b8.mono p7.size)
    have B8 := Lib.hid (B7.out.trans (b8.mono B7.out.size))
    clear b8 J1 J2 p7
    go_wp2_with fail
    refine (CC.out _ B8.out).mono ?_
    rintro e w9 ⟨rfl, rfl⟩
    go_wp2_with fail
    refine (CD.out _ B8.out).mono ?_
    rintro e w9 ⟨rfl, b9⟩
    have p9 : Below w.heap.size w w9 := p8.trans (b9.mono p8.size)
    clear b9 CC CD
    go_wp2_with fail
    go_ret
    exact ⟨rfl, p9⟩
  · go_wp2_with fail
    refine (C3.out _ p4 (by omega)).mono ?_
    rintro e w2 ⟨rfl, b2⟩
    have p2 : Below w.heap.size w w2 := p4.trans (b2.mono p4.size)
    clear b2
    go_wp2_with fail
    go_ret
    exact ⟨rfl, p2⟩
end Go.Proofs.Ytbckfoldjlgabaa
