/- WALK of SpoutForward. -/
import Derived.Test.YtbckfoldjlgabaaSpW
namespace Go.Proofs.Ytbckfoldjlgabaa
open Go.RowKit
open Fl (nan key canon)
theorem fwd_iff {a b : List Int} : fwd a b = true ↔ a.length = b.length ∧ ∀ i, i < a.length → a.getD i 0 ≤ b.getD i 0 := decide_eq_true_iff
theorem fwd_refl (a : List Int) : fwd a a = true := fwd_iff.2 ⟨rfl, fun _ _ => Int.le_refl _⟩
theorem fwd_trans {a b c : List Int} (h1 : fwd a b = true) (h2 : fwd b c = true) : fwd a c = true := by
  rw [fwd_iff] at *
  exact ⟨h1.1.trans h2.1, fun i hi => Int.le_trans (h1.2 i hi) (h2.2 i (h1.1 ▸ hi))⟩
theorem fwd_anti {a b : List Int} (h1 : fwd a b = true) (h2 : fwd b a = true) : a = b := by
  rw [fwd_iff] at *
  apply List.ext_getElem h1.1
  intro i hi hj
  have e1 := h1.2 i hi
  have e2 := h2.2 i hj
  rw [List.getD_eq_getElem?_getD, List.getD_eq_getElem?_getD, List.getElem?_eq_getElem hi, List.getElem?_eq_getElem hj] at e1 e2
  exact Int.le_antisymm e1 e2
theorem fwd_both (a b : List Int) : (fwd a b && fwd b a) = eqI a b := by
  cases h1 : fwd a b with
  | false =>
    have : a ≠ b := fun h => by rw [h, fwd_refl] at h1; cases h1
    exact (decide_eq_false this).symm
  | true =>
    cases h2 : fwd b a with
    | false =>
      have : a ≠ b := fun h => by rw [h, fwd_refl] at h2; cases h2
      exact (decide_eq_false this).symm
    | true => exact (decide_eq_true (fwd_anti h1 h2)).symm
set_option maxRecDepth 100000 in
set_option maxHeartbeats 8000000 in
theorem lforward_any {va vb vc : Value} {a b c : List Int} {w : World} (ha : Ints w va a) (hb : Ints w vb b) (hc : Ints w vc c) :
    Calls Try.prog 6 #[va, vb, vc] w fun e w' => e = .returned (.bool true) ∧ Below w.heap.size w w' := by
  have C0 := Lib.hid (pawake_any w)
  have CAB := Lib.hid (fun W (hW : Below w.heap.size w W) => forward_any W (ha.keep hW) (hb.keep hW))
  have CBC := Lib.hid (fun W (hW : Below w.heap.size w W) => forward_any W (hb.keep hW) (hc.keep hW))
  have CAA := Lib.hid (fun W (hW : Below w.heap.size w W) => forward_any W (ha.keep hW) (ha.keep hW))
  have CAC := Lib.hid (fun W (hW : Below w.heap.size w W) => forward_any W (ha.keep hW) (hc.keep hW))
  have CBA := Lib.hid (fun W (hW : Below w.heap.size w W) => forward_any W (hb.keep hW) (ha.keep hW))
  have CI := Lib.hid (fun W (hW : Below w.heap.size w W) => ints_any W (ha.keep hW) (hb.keep hW))
  have HT : Hid (fwd a b = true → fwd b c = true → fwd a c = true) := Lib.hid fwd_trans
  rw [fwd_refl] at CAA
  rw [← fwd_both] at CI
  clear ha hb hc
  generalize fwd a b = ab at *
  generalize fwd b c = bc at *
  generalize fwd b a = ba at *
  generalize fwd a c = ac at *
  go_enter Try.func6, Try.ntmps6
  go_wp2_with fail
  refine C0.out.mono ?_
  rintro e w1 ⟨rfl, p1⟩
  go_wp2_with fail
  refine (CAB.out _ p1).mono ?_
  rintro e w2 ⟨rfl, b2⟩
  have p2 : Below w.heap.size w w2 := p1.trans (b2.mono p1.size)
  go_wp2_with fail
  refine (CBC.out _ p2).mono ?_
  rintro e w3 ⟨rfl, b3⟩
  have p3 : Below w.heap.size w w3 := p2.trans (b3.mono p2.size)
  go_wp2_with fail
  refine (CAA.out _ p3).mono ?_
  rintro e w4 ⟨rfl, b4⟩
  have p4 : Below w.heap.size w w4 := p3.trans (b4.mono p3.size)
  clear C0 CAB CBC CAA b2 b3 b4 p1 p2 p3
  cases ab with
  | true =>
    cases bc with
    | true =>
      obtain rfl := HT.out rfl rfl
      go_wp2_with fail
      refine (CAC.out _ p4).mono ?_
      rintro e w5 ⟨rfl, b5⟩
      have p5 : Below w.heap.size w w5 := p4.trans (b5.mono p4.size)
      go_wp2_with fail
      refine (CBA.out _ p5).mono ?_
      rintro e w6 ⟨rfl, b6⟩
      have p6 : Below w.heap.size w w6 := p5.trans (b6.mono p5.size)
      go_wp2_with fail
      refine (CI.out _ p6).mono ?_
      rintro e w7 ⟨rfl, b7⟩
      have p7 : Below w.heap.size w w7 := p6.trans (b7.mono p6.size)
      cases ba
      all_goals
        go_wp2_with fail
        go_ret
        exact ⟨rfl, p7⟩
    | false =>
      go_wp2_with fail
      refine (CBA.out _ p4).mono ?_
      rintro e w6 ⟨rfl, b6⟩
      have p6 : Below w.heap.size w w6 := p4.trans (b6.mono p4.size)
      go_wp2_with fail
      refine (CI.out _ p6).mono ?_
      rintro e w7 ⟨rfl, b7⟩
      have p7 : Below w.heap.size w w7 := p6.trans (b7.mono p6.size)
      cases ba
      all_goals
        go_wp2_with fail
        go_ret
        exact ⟨rfl, p7⟩
  | false =>
    go_wp2_with fail
    refine (CI.out _ p4).mono ?_
    rintro e w7 ⟨rfl, b7⟩
    have p7 : Below w.heap.size w w7 := p4.trans (b7.mono p4.size)
    cases bc
    all_goals
      go_wp2_with fail
      go_ret
      exact ⟨rfl, p7⟩
end Go.Proofs.Ytbckfoldjlgabaa
