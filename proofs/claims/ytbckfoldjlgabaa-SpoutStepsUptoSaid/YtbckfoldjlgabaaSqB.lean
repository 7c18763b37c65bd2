/- WALKS of law07: right triples. -/
import Derived.Test.YtbckfoldjlgabaaSqA
namespace Go.Proofs.Ytbckfoldjlgabaa
open Go.RowKit
open Fl (nan key canon)
set_option maxRecDepth 100000 in
theorem containsNeg_any {v : Value} {l : List Int} (w : World) (h : Ints w v l) :
    Calls Try.prog 63 #[v, .func (.func 62) #[] #[]] w fun e w' => e = .returned (.bool (l.any (fun z => decide (z < 0)))) ∧ w = w' := by
  have C1 := Lib.hid (indexNeg_any w h)
  clear h
  go_enter Try.func63, Try.ntmps63
  go_wp2_with fail
  refine C1.out.mono ?_
  rintro e w' ⟨k, rfl, hk, rfl⟩
  have HK := Lib.hid hk
  clear hk
  go_wp2_with fail
  go_ret
  exact ⟨by rw [← HK.out]; rfl, rfl⟩
set_option maxRecDepth 100000 in
theorem containsNot_any {v : Value} {l : List Int} (w : World) (h : Ints w v l) :
    Calls Try.prog 63 #[v, .func (.func 64) #[] #[]] w fun e w' => e = .returned (.bool (l.any (fun z => z != 0))) ∧ w = w' := by
  have C1 := Lib.hid (indexNot_any w h)
  clear h
  go_enter Try.func63, Try.ntmps63
  go_wp2_with fail
  refine C1.out.mono ?_
  rintro e w' ⟨k, rfl, hk, rfl⟩
  have HK := Lib.hid hk
  clear hk
  go_wp2_with fail
  go_ret
  exact ⟨by rw [← HK.out]; rfl, rfl⟩
/-- is it a right triple? -/
def rightT (b : Int) (pl cl : List Int) : Bool := decide (0 ≤ b) && fwd pl cl && !(pl.any (fun z => decide (z < 0))) && (decide (0 < b) || !(cl.any (fun z => z != 0)))
set_option maxRecDepth 100000 in
set_option maxHeartbeats 8000000 in
theorem sright_any {b : Int} {pv cv : Value} {pl cl : List Int} (w : World) (hp : Ints w pv pl) (hc : Ints w cv cl) :
    Calls Try.prog 47 #[.agg #[.int .i64 b, pv, cv]] w fun e w' => e = .returned (.bool (rightT b pl cl)) ∧ Below w.heap.size w w' := by
  have CF := Lib.hid (fun W (hW : Below w.heap.size w W) => forward_any W (hp.keep hW) (hc.keep hW))
  have CN := Lib.hid (fun W (hW : Below w.heap.size w W) => containsNeg_any W (hp.keep hW))
  have CO := Lib.hid (fun W (hW : Below w.heap.size w W) => containsNot_any W (hc.keep hW))
  obtain ⟨pa, pn, pcap, _, _, _, rfl, -⟩ := hp
  obtain ⟨ca, cn, ccap, _, _, _, rfl, -⟩ := hc
  unfold rightT
  by_cases h0 : 0 ≤ b
  · rw [decide_eq_true h0]
    have h0' : (b < 0) = False := eq_false (by omega)
    cases hf : fwd pl cl with
    | false =>
      rw [hf] at CF
      clear hf h0
      go_enter Try.func47, Try.ntmps47
      go_wp2_with fail
      refine (CF.out _ (bel_alloc1 _ _)).mono ?_
      rintro e w1 ⟨rfl, b1⟩
      have p1 : Below w.heap.size w w1 := (by repeat' (first | with_reducible exact Below.refl _ _ | with_reducible assumption | with_reducible refine bel_drew ?_ | with_reducible refine bel_alloc ?_ _ | with_reducible refine bel_set ?_ ?_ _ | with_reducible refine bel_call ?_ (by assumption) | (dsimp only; omega) | (simp; done) | (simp; omega)))
      clear b1
      go_wp2_with fail
      go_ret
      exact ⟨rfl, p1⟩
    | true =>
      rw [hf] at CF
      clear hf
      cases hn : pl.any (fun z => decide (z < 0)) with
      | true =>
        rw [hn] at CN
        clear hn h0
        go_enter Try.func47, Try.ntmps47
        go_wp2_with fail
        refine (CF.out _ (bel_alloc1 _ _)).mono ?_
        rintro e w1 ⟨rfl, b1⟩
        have p1 : Below w.heap.size w w1 := (by repeat' (first | with_reducible exact Below.refl _ _ | with_reducible assumption | with_reducible refine bel_drew ?_ | with_reducible refine bel_alloc ?_ _ | with_reducible refine bel_set ?_ ?_ _ | with_reducible refine bel_call ?_ (by assumption) | (dsimp only; omega) | (simp; done) | (simp; omega)))
        have B1 : Blk w1 w.heap.size [.int .i64 b, .slice pa pn pcap, .slice ca cn ccap] 54 := Blk.below (by repeat' (first | with_reducible assumption | (show (_ : List Value) = _; rfl) | with_reducible exact Blk.new _ _ rfl | (with_reducible refine Blk.new _ _ ?_; simp; done) | with_reducible apply Blk.set_eq | with_reducible apply Blk.other | with_reducible apply Blk.alloc | with_reducible apply Blk.drew | (simp; done) | (simp; omega))) b1
        have c1 : w1.cell? ⟨w.heap.size, 1, none⟩ = some (.slice pa pn pcap) := B1.cell 1
        have nB := B1.lt
        clear b1 B1
        go_wp2_with fail
        refine (CN.out _ p1).mono ?_
        rintro e w' ⟨rfl, rfl⟩
        go_wp2_with fail
        go_ret
        exact ⟨rfl, p1⟩
      | false =>
        rw [hn] at CN
        clear hn
        by_cases h1 : 0 < b
        · rw [decide_eq_true h1]
          have h1' : (0 < b) = True := eq_true h1
          clear h0 h1
          go_enter Try.func47, Try.ntmps47
          go_wp2_with fail
          refine (CF.out _ (bel_alloc1 _ _)).mono ?_
          rintro e w1 ⟨rfl, b1⟩
          have p1 : Below w.heap.size w w1 := (by repeat' (first | with_reducible exact Below.refl _ _ | with_reducible assumption | with_reducible refine bel_drew ?_ | with_reducible refine bel_alloc ?_ _ | with_reducible refine bel_set ?_ ?_ _ | with_reducible refine bel_call ?_ (by assumption) | (dsimp only; omega) | (simp; done) | (simp; omega)))
          have B1 : Blk w1 w.heap.size [.int .i64 b, .slice pa pn pcap, .slice ca cn ccap] 54 := Blk.below (by repeat' (first | with_reducible assumption | (show (_ : List Value) = _; rfl) | with_reducible exact Blk.new _ _ rfl | (with_reducible refine Blk.new _ _ ?_; simp; done) | with_reducible apply Blk.set_eq | with_reducible apply Blk.other | with_reducible apply Blk.alloc | with_reducible apply Blk.drew | (simp; done) | (simp; omega))) b1
          have c0 : w1.cell? ⟨w.heap.size, 0, none⟩ = some (.int .i64 b) := B1.cell 0
          have c1 : w1.cell? ⟨w.heap.size, 1, none⟩ = some (.slice pa pn pcap) := B1.cell 1
          have nB := B1.lt
          clear b1 B1
          go_wp2_with fail
          refine (CN.out _ p1).mono ?_
          rintro e w' ⟨rfl, rfl⟩
          go_wp2_with fail
          go_ret
          exact ⟨rfl, p1⟩
        · rw [decide_eq_false h1]
          have h1' : (0 < b) = False := eq_false h1
          clear h0 h1
          generalize (cl.any (fun z => z != 0)) = q at *
          go_enter Try.func47, Try.ntmps47
          go_wp2_with fail
          refine (CF.out _ (bel_alloc1 _ _)).mono ?_
          rintro e w1 ⟨rfl, b1⟩
          have p1 : Below w.heap.size w w1 := (by repeat' (first | with_reducible exact Below.refl _ _ | with_reducible assumption | with_reducible refine bel_drew ?_ | with_reducible refine bel_alloc ?_ _ | with_reducible refine bel_set ?_ ?_ _ | with_reducible refine bel_call ?_ (by assumption) | (dsimp only; omega) | (simp; done) | (simp; omega)))
          have B1 : Blk w1 w.heap.size [.int .i64 b, .slice pa pn pcap, .slice ca cn ccap] 54 := Blk.below (by repeat' (first | with_reducible assumption | (show (_ : List Value) = _; rfl) | with_reducible exact Blk.new _ _ rfl | (with_reducible refine Blk.new _ _ ?_; simp; done) | with_reducible apply Blk.set_eq | with_reducible apply Blk.other | with_reducible apply Blk.alloc | with_reducible apply Blk.drew | (simp; done) | (simp; omega))) b1
          have c0 : w1.cell? ⟨w.heap.size, 0, none⟩ = some (.int .i64 b) := B1.cell 0
          have c1 : w1.cell? ⟨w.heap.size, 1, none⟩ = some (.slice pa pn pcap) := B1.cell 1
          have c2 : w1.cell? ⟨w.heap.size, 2, none⟩ = some (.slice ca cn ccap) := B1.cell 2
          have nB := B1.lt
          clear b1 B1
          go_wp2_with fail
          refine (CN.out _ p1).mono ?_
          rintro e w' ⟨rfl, rfl⟩
          go_wp2_with fail
          refine (CO.out _ p1).mono ?_
          rintro e w' ⟨rfl, rfl⟩
          go_wp2_with fail
          go_ret
          exact ⟨by simp, p1⟩
  · rw [decide_eq_false h0]
    have h0' : (b < 0) = True := eq_true (by omega)
    clear h0
    go_enter Try.func47, Try.ntmps47
    go_wp2_with fail
    go_ret
    exact ⟨rfl, bel_alloc1 _ _⟩
end Go.Proofs.Ytbckfoldjlgabaa
