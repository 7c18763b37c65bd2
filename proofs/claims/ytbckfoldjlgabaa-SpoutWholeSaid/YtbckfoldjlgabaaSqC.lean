/- WALKS of law07: triples: the search in a list. WALKS of law07: right triples. WALKS of law07: Step, At of both. -/
import Derived.Test.YtbckfoldjlgabaaSpW
namespace Go.Proofs.Ytbckfoldjlgabaa
open Go.RowKit
open Fl (nan key canon)
set_option maxRecDepth 100000 in
theorem below0_any (z : Int) (w : World) : Calls Try.prog 62 #[.int .i64 z] w fun e w' => e = .returned (.bool (decide (z < 0))) ∧ w = w' := by
  go_enter Try.func62, Try.ntmps62
  go_wp2_with fail
  go_ret
  exact ⟨rfl, rfl⟩
set_option maxRecDepth 100000 in
theorem not0_any (z : Int) (w : World) : Calls Try.prog 64 #[.int .i64 z] w fun e w' => e = .returned (.bool (z != 0)) ∧ w = w' := by
  go_enter Try.func64, Try.ntmps64
  go_wp2_with fail
  go_ret
  exact ⟨rfl, rfl⟩
set_option maxRecDepth 100000 in
set_option maxHeartbeats 4000000 in
theorem indexNeg_any {v : Value} {l : List Int} (w : World) (h : Ints w v l) :
    Calls Try.prog 69 #[v, .func (.func 62) #[] #[]] w fun e w' => ∃ k : Int, e = .returned (.int .i64 k) ∧ decide (0 ≤ k) = l.any (fun z => decide (z < 0)) ∧ w = w' := by
  obtain ⟨a, n, cap, b, o, p, rfl, rfl, ha, hr, hc, hm⟩ := h
  have HR := Lib.hid hr
  have HA := Lib.hid ha
  have HL : Hid (n ≤ 17592186043904) := Lib.hid hm.2
  have C1 := Lib.hid (fun z W => below0_any z W)
  clear hr ha hc hm
  go_enter Try.func69, Try.ntmps69
  go_wp2_with fail
  go_loopg [8] n (fun g s8 wr => ∃ (i : Nat), i ≤ n ∧ g = n - i ∧ s8 = .int .i64 i ∧ (∀ j, j < i → (fun z : Int => decide (z < 0)) (p j) = false) ∧ w = wr)
  case atStart => exact ⟨0, Nat.zero_le _, rfl, rfl, fun j hj => absurd hj (Nat.not_lt_zero _), rfl⟩
  case round =>
    obtain ⟨i, hi, rfl, rfl, hal, rfl⟩ := hrel
    have HAL := Lib.hid hal
    clear hal
    by_cases hlt : i < n
    · obtain rfl := HA.out (by omega)
      have hz2 : (i : Int) < (n : Int) := by omega
      have hw1 : IntKind.i64.wrap ((i : Int) + 1) = (i : Int) + 1 := Go.IntWalk.i64_in _ (by have := HL.out; omega)
      have r1 := HR.out (by omega)
      have x0 := r1.c i hlt
      have z1 := r1.lt
      have C2 := Lib.hid (C1.out (p i) w)
      clear r1 C1
      cases hq : (fun z : Int => decide (z < 0)) (p i) with
      | true =>
        have hq' : (decide (p i < 0)) = true := hq
        rw [hq'] at C2
        have HF : Hid (decide (0 ≤ (i : Int)) = (toL n p).any (fun z => decide (z < 0))) := Lib.hid (by
          rw [decide_eq_true (by omega)]
          exact (List.any_eq_true.2 ⟨p i, List.mem_of_getElem? (toL_get hlt), hq⟩).symm)
        clear hq hq'
        go_wp2_with fail
        refine C2.out.mono ?_
        rintro e w' ⟨rfl, rfl⟩
        go_wp2_with fail
        go_ret
        exact ⟨_, rfl, HF.out, rfl⟩
      | false =>
        have hq' : (decide (p i < 0)) = false := hq
        rw [hq'] at C2
        have HQ := Lib.hid hq
        clear hq hq'
        go_wp2_with fail
        refine C2.out.mono ?_
        rintro e w' ⟨rfl, rfl⟩
        go_wp2_with fail
        go_roundg (n - (i + 1))
        case measure => omega
        case rel => exact ⟨i + 1, hlt, rfl, (by first | rfl | simp), fun j hj => by
          rcases Nat.lt_or_ge j i with h1 | h1
          · exact HAL.out j h1
          · obtain rfl : j = i := by omega
            exact HQ.out, rfl⟩
    · obtain rfl : i = n := by omega
      have hz2 : ¬ ((i : Int) < (i : Int)) := by omega
      have HF : Hid (decide (0 ≤ (-1 : Int)) = (toL i p).any (fun z => decide (z < 0))) := Lib.hid (by
        rw [decide_eq_false (by decide)]
        symm
        rw [List.any_eq_false]
        intro x hx
        obtain ⟨j, hj⟩ := List.mem_iff_getElem?.1 hx
        have hjn : j < i := by have := (List.getElem?_eq_some_iff.1 hj).1; rwa [toL_len] at this
        rw [toL_get hjn] at hj
        cases hj
        have := HAL.out j hjn
        simpa using this)
      go_wp2_with fail
      go_ret
      exact ⟨_, rfl, HF.out, rfl⟩
set_option maxRecDepth 100000 in
set_option maxHeartbeats 4000000 in
theorem indexNot_any {v : Value} {l : List Int} (w : World) (h : Ints w v l) :
    Calls Try.prog 69 #[v, .func (.func 64) #[] #[]] w fun e w' => ∃ k : Int, e = .returned (.int .i64 k) ∧ decide (0 ≤ k) = l.any (fun z => z != 0) ∧ w = w' := by
  obtain ⟨a, n, cap, b, o, p, rfl, rfl, ha, hr, hc, hm⟩ := h
  have HR := Lib.hid hr
  have HA := Lib.hid ha
  have HL : Hid (n ≤ 17592186043904) := Lib.hid hm.2
  have C1 := Lib.hid (fun z W => not0_any z W)
  clear hr ha hc hm
  go_enter Try.func69, Try.ntmps69
  go_wp2_with fail
  go_loopg [8] n (fun g s8 wr => ∃ (i : Nat), i ≤ n ∧ g = n - i ∧ s8 = .int .i64 i ∧ (∀ j, j < i → (fun z : Int => z != 0) (p j) = false) ∧ w = wr)
  case atStart => exact ⟨0, Nat.zero_le _, rfl, rfl, fun j hj => absurd hj (Nat.not_lt_zero _), rfl⟩
  case round =>
    obtain ⟨i, hi, rfl, rfl, hal, rfl⟩ := hrel
    have HAL := Lib.hid hal
    clear hal
    by_cases hlt : i < n
    · obtain rfl := HA.out (by omega)
      have hz2 : (i : Int) < (n : Int) := by omega
      have hw1 : IntKind.i64.wrap ((i : Int) + 1) = (i : Int) + 1 := Go.IntWalk.i64_in _ (by have := HL.out; omega)
      have r1 := HR.out (by omega)
      have x0 := r1.c i hlt
      have z1 := r1.lt
      have C2 := Lib.hid (C1.out (p i) w)
      clear r1 C1
      cases hq : (fun z : Int => z != 0) (p i) with
      | true =>
        have hq' : (p i != 0) = true := hq
        rw [hq'] at C2
        have HF : Hid (decide (0 ≤ (i : Int)) = (toL n p).any (fun z => z != 0)) := Lib.hid (by
          rw [decide_eq_true (by omega)]
          exact (List.any_eq_true.2 ⟨p i, List.mem_of_getElem? (toL_get hlt), hq⟩).symm)
        clear hq hq'
        go_wp2_with fail
        refine C2.out.mono ?_
        rintro e w' ⟨rfl, rfl⟩
        go_wp2_with fail
        go_ret
        exact ⟨_, rfl, HF.out, rfl⟩
      | false =>
        have hq' : (p i != 0) = false := hq
        rw [hq'] at C2
        have HQ := Lib.hid hq
        clear hq hq'
        go_wp2_with fail
        refine C2.out.mono ?_
        rintro e w' ⟨rfl, rfl⟩
        go_wp2_with fail
        go_roundg (n - (i + 1))
        case measure => omega
        case rel => exact ⟨i + 1, hlt, rfl, (by first | rfl | simp), fun j hj => by
          rcases Nat.lt_or_ge j i with h1 | h1
          · exact HAL.out j h1
          · obtain rfl : j = i := by omega
            exact HQ.out, rfl⟩
    · obtain rfl : i = n := by omega
      have hz2 : ¬ ((i : Int) < (i : Int)) := by omega
      have HF : Hid (decide (0 ≤ (-1 : Int)) = (toL i p).any (fun z => z != 0)) := Lib.hid (by
        rw [decide_eq_false (by decide)]
        symm
        rw [List.any_eq_false]
        intro x hx
        obtain ⟨j, hj⟩ := List.mem_iff_getElem?.1 hx
        have hjn : j < i := by have := (List.getElem?_eq_some_iff.1 hj).1; rwa [toL_len] at this
        rw [toL_get hjn] at hj
        cases hj
        have := HAL.out j hjn
        simpa using this)
      go_wp2_with fail
      go_ret
      exact ⟨_, rfl, HF.out, rfl⟩
end Go.Proofs.Ytbckfoldjlgabaa
namespace Go.Proofs.Ytbckfoldjlgabaa
open Go.RowKit
open Fl (nan key canon)
set_option maxRecDepth 100000 in
theorem containsNeg_any {v : Value} {l : List Int} (w : World) (h : Ints w v l) :
    Calls Try.prog 63 #[v, .func (.func 62) #[] #[]] w fun e w' => e = .returned (.bool (l.any (fun z => decide (z < 0)))) ∧ w = w' := by
  have C1 := Lib.hid (indexNeg_any w h)
  clear h
  go_enter Try.func63, Try.ntmps63
  go_wp2_with fail
  refine C1.out.mono ?_
  rintro e w' ⟨k, rfl, hk, rfl⟩
  have HK := Lib.hid hk
  clear hk
  go_wp2_with fail
  go_ret
  exact ⟨by rw [← HK.out]; rfl, rfl⟩
set_option maxRecDepth 100000 in
theorem containsNot_any {v : Value} {l : List Int} (w : World) (h : Ints w v l) :
    Calls Try.prog 63 #[v, .func (.func 64) #[] #[]] w fun e w' => e = .returned (.bool (l.any (fun z => z != 0))) ∧ w = w' := by
  have C1 := Lib.hid (indexNot_any w h)
  clear h
  go_enter Try.func63, Try.ntmps63
  go_wp2_with fail
  refine C1.out.mono ?_
  rintro e w' ⟨k, rfl, hk, rfl⟩
  have HK := Lib.hid hk
  clear hk
  go_wp2_with fail
  go_ret
  exact ⟨by rw [← HK.out]; rfl, rfl⟩
/-- is it a right triple? -/
def rightT (b : Int) (pl cl : List Int) : Bool := decide (0 ≤ b) && fwd pl cl && !(pl.any (fun z => decide (z < 0))) && (decide (0 < b) || !(cl.any (fun z => z != 0)))
set_option maxRecDepth 100000 in
set_option maxHeartbeats 8000000 in
theorem sright_any {b : Int} {pv cv : Value} {pl cl : List Int} (w : World) (hp : Ints w pv pl) (hc : Ints w cv cl) :
    Calls Try.prog 47 #[.agg #[.int .i64 b, pv, cv]] w fun e w' => e = .returned (.bool (rightT b pl cl)) ∧ Below w.heap.size w w' := by
  have CF := Lib.hid (fun W (hW : Below w.heap.size w W) => forward_any W (hp.keep hW) (hc.keep hW))
  have CN := Lib.hid (fun W (hW : Below w.heap.size w W) => containsNeg_any W (hp.keep hW))
  have CO := Lib.hid (fun W (hW : Below w.heap.size w W) => containsNot_any W (hc.keep hW))
  obtain ⟨pa, pn, pcap, _, _, _, rfl, -⟩ := hp
  obtain ⟨ca, cn, ccap, _, _, _, rfl, -⟩ := hc
  unfold rightT
  by_cases h0 : 0 ≤ b
  · rw [decide_eq_true h0]
    have h0' : (b < 0) = False := eq_false (by omega)
    cases hf : fwd pl cl with
    | false =>
      rw [hf] at CF
      clear hf h0
      go_enter Try.func47, Try.ntmps47
      go_wp2_with fail
      refine (CF.out _ (bel_alloc1 _ _)).mono ?_
      rintro e w1 ⟨rfl, b1⟩
      have p1 : Below w.heap.size w w1 := (by repeat' (first | with_reducible exact Below.refl _ _ | with_reducible assumption | with_reducible refine bel_drew ?_ | with_reducible refine bel_alloc ?_ _ | with_reducible refine bel_set ?_ ?_ _ | with_reducible refine bel_call ?_ (by assumption) | (dsimp only; omega) | (simp; done) | (simp; omega)))
      clear b1
      go_wp2_with fail
      go_ret
      exact ⟨rfl, p1⟩
    | true =>
      rw [hf] at CF
      clear hf
      cases hn : pl.any (fun z => decide (z < 0)) with
      | true =>
        rw [hn] at CN
        clear hn h0
        go_enter Try.func47, Try.ntmps47
        go_wp2_with fail
        refine (CF.out _ (bel_alloc1 _ _)).mono ?_
        rintro e w1 ⟨rfl, b1⟩
        have p1 : Below w.heap.size w w1 := (by repeat' (first | with_reducible exact Below.refl _ _ | with_reducible assumption | with_reducible refine bel_drew ?_ | with_reducible refine bel_alloc ?_ _ | with_reducible refine bel_set ?_ ?_ _ | with_reducible refine bel_call ?_ (by assumption) | (dsimp only; omega) | (simp; done) | (simp; omega)))
        have B1 : Blk w1 w.heap.size [.int .i64 b, .slice pa pn pcap, .slice ca cn ccap] 54 := Blk.below (by repeat' (first | with_reducible assumption | (show (_ : List Value) = _; rfl) | with_reducible exact Blk.new _ _ rfl | (with_reducible refine Blk.new _ _ ?_; simp; done) | with_reducible apply Blk.set_eq | with_reducible apply Blk.other | with_reducible apply Blk.alloc | with_reducible apply Blk.drew | (simp; done) | (simp; omega))) b1
        have c1 : w1.cell? ⟨w.heap.size, 1, none⟩ = some (.slice pa pn pcap) := B1.cell 1
        have nB := B1.lt
        clear b1 B1
        go_wp2_with fail
        refine (CN.out _ p1).mono ?_
        rintro e w' ⟨rfl, rfl⟩
        go_wp2_with fail
        go_ret
        exact ⟨rfl, p1⟩
      | false =>
        rw [hn] at CN
        clear hn
        by_cases h1 : 0 < b
        · rw [decide_eq_true h1]
          have h1' : (0 < b) = True := eq_true h1
          clear h0 h1
          go_enter Try.func47, Try.ntmps47
          go_wp2_with fail
          refine (CF.out _ (bel_alloc1 _ _)).mono ?_
          rintro e w1 ⟨rfl, b1⟩
          have p1 : Below w.heap.size w w1 := (by repeat' (first | with_reducible exact Below.refl _ _ | with_reducible assumption | with_reducible refine bel_drew ?_ | with_reducible refine bel_alloc ?_ _ | with_reducible refine bel_set ?_ ?_ _ | with_reducible refine bel_call ?_ (by assumption) | (dsimp only; omega) | (simp; done) | (simp; omega)))
          have B1 : Blk w1 w.heap.size [.int .i64 b, .slice pa pn pcap, .slice ca cn ccap] 54 := Blk.below (by repeat' (first | with_reducible assumption | (show (_ : List Value) = _; rfl) | with_reducible exact Blk.new _ _ rfl | (with_reducible refine Blk.new _ _ ?_; simp; done) | with_reducible apply Blk.set_eq | with_reducible apply Blk.other | with_reducible apply Blk.alloc | with_reducible apply Blk.drew | (simp; done) | (simp; omega))) b1
          have c0 : w1.cell? ⟨w.heap.size, 0, none⟩ = some (.int .i64 b) := B1.cell 0
          have c1 : w1.cell? ⟨w.heap.size, 1, none⟩ = some (.slice pa pn pcap) := B1.cell 1
          have nB := B1.lt
          clear b1 B1
          go_wp2_with fail
          refine (CN.out _ p1).mono ?_
          rintro e w' ⟨rfl, rfl⟩
          go_wp2_with fail
          go_ret
          exact ⟨rfl, p1⟩
        · rw [decide_eq_false h1]
          have h1' : (0 < b) = False := eq_false h1
          clear h0 h1
          generalize (cl.any (fun z => z != 0)) = q at *
          go_enter Try.func47, Try.ntmps47
          go_wp2_with fail
          refine (CF.out _ (bel_alloc1 _ _)).mono ?_
          rintro e w1 ⟨rfl, b1⟩
          have p1 : Below w.heap.size w w1 := (by repeat' (first | with_reducible exact Below.refl _ _ | with_reducible assumption | with_reducible refine bel_drew ?_ | with_reducible refine bel_alloc ?_ _ | with_reducible refine bel_set ?_ ?_ _ | with_reducible refine bel_call ?_ (by assumption) | (dsimp only; omega) | (simp; done) | (simp; omega)))
          have B1 : Blk w1 w.heap.size [.int .i64 b, .slice pa pn pcap, .slice ca cn ccap] 54 := Blk.below (by repeat' (first | with_reducible assumption | (show (_ : List Value) = _; rfl) | with_reducible exact Blk.new _ _ rfl | (with_reducible refine Blk.new _ _ ?_; simp; done) | with_reducible apply Blk.set_eq | with_reducible apply Blk.other | with_reducible apply Blk.alloc | with_reducible apply Blk.drew | (simp; done) | (simp; omega))) b1
          have c0 : w1.cell? ⟨w.heap.size, 0, none⟩ = some (.int .i64 b) := B1.cell 0
          have c1 : w1.cell? ⟨w.heap.size, 1, none⟩ = some (.slice pa pn pcap) := B1.cell 1
          have c2 : w1.cell? ⟨w.heap.size, 2, none⟩ = some (.slice ca cn ccap) := B1.cell 2
          have nB := B1.lt
          clear b1 B1
          go_wp2_with fail
          refine (CN.out _ p1).mono ?_
          rintro e w' ⟨rfl, rfl⟩
          go_wp2_with fail
          refine (CO.out _ p1).mono ?_
          rintro e w' ⟨rfl, rfl⟩
          go_wp2_with fail
          go_ret
          exact ⟨by simp, p1⟩
  · rw [decide_eq_false h0]
    have h0' : (b < 0) = True := eq_true (by omega)
    clear h0
    go_enter Try.func47, Try.ntmps47
    go_wp2_with fail
    go_ret
    exact ⟨rfl, bel_alloc1 _ _⟩
end Go.Proofs.Ytbckfoldjlgabaa
namespace Go.Proofs.Ytbckfoldjlgabaa
open Go.RowKit
open Fl (nan key canon)
theorem any_toL {n : Nat} {p : Nat → Int} {f : Int → Bool} : (toL n p).any f = decide (∃ i, i < n ∧ f (p i) = true) := by
  rw [Bool.eq_iff_iff, List.any_eq_true, decide_eq_true_iff]
  constructor
  · rintro ⟨x, hx, hf⟩
    obtain ⟨j, hj⟩ := List.mem_iff_getElem?.1 hx
    have hjn : j < n := by have := (List.getElem?_eq_some_iff.1 hj).1; rwa [toL_len] at this
    rw [toL_get hjn] at hj
    cases hj
    exact ⟨j, hjn, hf⟩
  · rintro ⟨i, hi, hf⟩
    exact ⟨p i, List.mem_of_getElem? (toL_get hi), hf⟩
theorem rightT_toL {b : Int} {n : Nat} {p q : Nat → Int} : rightT b (toL n p) (toL n q) = decide (0 ≤ b ∧ (∀ i, i < n → p i ≤ q i) ∧ ∀ i, i < n → 0 ≤ p i ∧ (b = 0 → q i = 0)) := by
  unfold rightT
  rw [fwd_toL, any_toL, any_toL, Bool.eq_iff_iff]
  simp only [Bool.and_eq_true, Bool.or_eq_true, Bool.not_eq_true', decide_eq_true_iff, decide_eq_false_iff_not, bne_iff_ne, ne_eq, not_exists, not_and, Int.not_lt, Decidable.not_not, true_and]
  constructor
  · rintro ⟨⟨⟨h1, h2⟩, h3⟩, h4⟩
    exact ⟨h1, h2, fun i hi => ⟨h3 i hi, fun h0 => by
      rcases h4 with h4 | h4
      · omega
      · exact h4 i hi⟩⟩
  · rintro ⟨h1, h2, h3⟩
    refine ⟨⟨⟨h1, h2⟩, fun i hi => (h3 i hi).1⟩, ?_⟩
    by_cases h0 : 0 < b
    · exact .inl h0
    · exact .inr fun i hi => (h3 i hi).2 (by omega)
theorem rightT_len {b : Int} {pl cl : List Int} (h : rightT b pl cl = true) : 0 ≤ b ∧ fwd pl cl = true := by
  unfold rightT at h
  simp only [Bool.and_eq_true, decide_eq_true_iff] at h
  exact ⟨h.1.1.1, h.1.1.2⟩
theorem rightT_neg {b : Int} {pl cl : List Int} (h : ¬ 0 ≤ b) : rightT b pl cl = false := by
  unfold rightT; rw [decide_eq_false h]; rfl
theorem rightT_fwd {b : Int} {pl cl : List Int} (h : fwd pl cl = false) : rightT b pl cl = false := by
  unfold rightT; rw [h]; simp
set_option maxRecDepth 100000 in
set_option maxHeartbeats 8000000 in
theorem rright_any {b : Int} {pv cv : Value} {pl cl : List Int} (w : World) (hp : Ints w pv pl) (hc : Ints w cv cl) :
    Calls Try.prog 48 #[.agg #[.int .i64 b, pv, cv]] w fun e w' => e = .returned (.bool (rightT b pl cl)) ∧ Below w.heap.size w w' := by
  have CF := Lib.hid (fun W (hW : Below w.heap.size w W) => rforward_any W (hp.keep hW) (hc.keep hW))
  obtain ⟨pa, n, pcap, pb, po, p, rfl, rfl, hpa, hpr, -, -, hpm⟩ := hp
  obtain ⟨ca, n', ccap, cb, co, q, rfl, rfl, hca, hcr, -, -, -⟩ := hc
  by_cases h0 : 0 ≤ b
  · have h0' : (b < 0) = False := eq_false (by omega)
    cases hf : fwd (toL n p) (toL n' q) with
    | false =>
      rw [hf] at CF
      rw [rightT_fwd hf]
      clear hf h0 hpr hcr hpa hca
      go_enter Try.func48, Try.ntmps48
      go_wp2_with fail
      refine (CF.out _ (bel_alloc1 _ _)).mono ?_
      rintro e w1 ⟨rfl, b1⟩
      have p1 : Below w.heap.size w w1 := (by repeat' (first | with_reducible exact Below.refl _ _ | with_reducible assumption | with_reducible refine bel_drew ?_ | with_reducible refine bel_alloc ?_ _ | with_reducible refine bel_set ?_ ?_ _ | with_reducible refine bel_call ?_ (by assumption) | (dsimp only; omega) | (simp; done) | (simp; omega)))
      clear b1
      go_wp2_with fail
      go_ret
      exact ⟨rfl, p1⟩
    | true =>
      rw [hf] at CF
      rw [fwd_toL, decide_eq_true_iff] at hf
      obtain ⟨rfl, hpq⟩ := hf
      obtain ⟨T, hT⟩ : ∃ T, rightT b (toL n p) (toL n q) = T := ⟨_, rfl⟩
      rw [hT]
      rw [rightT_toL] at hT
      have HT := Lib.hid hT
      have HPQ := Lib.hid hpq
      have HR := Lib.hid hpr
      have HA := Lib.hid hpa
      have HR' := Lib.hid hcr
      have HA' := Lib.hid hca
      have HL : Hid (n ≤ 17592186043904) := Lib.hid hpm
      have H0 := Lib.hid h0
      clear hT hpq hpr hpa hcr hca hpm h0
      go_enter Try.func48, Try.ntmps48
      go_wp2_with fail
      refine (CF.out _ (bel_alloc1 _ _)).mono ?_
      rintro e w1 ⟨rfl, b1⟩
      have p1 : Below w.heap.size w w1 := (by repeat' (first | with_reducible exact Below.refl _ _ | with_reducible assumption | with_reducible refine bel_drew ?_ | with_reducible refine bel_alloc ?_ _ | with_reducible refine bel_set ?_ ?_ _ | with_reducible refine bel_call ?_ (by assumption) | (dsimp only; omega) | (simp; done) | (simp; omega)))
      have B1 : Blk w1 w.heap.size [.int .i64 b, .slice pa n pcap, .slice ca n ccap] 54 := Blk.below (by repeat' (first | with_reducible assumption | (show (_ : List Value) = _; rfl) | with_reducible exact Blk.new _ _ rfl | (with_reducible refine Blk.new _ _ ?_; simp; done) | with_reducible apply Blk.set_eq | with_reducible apply Blk.other | with_reducible apply Blk.alloc | with_reducible apply Blk.drew | (simp; done) | (simp; omega))) b1
      have c0 : w1.cell? ⟨w.heap.size, 0, none⟩ = some (.int .i64 b) := B1.cell 0
      have c1 : w1.cell? ⟨w.heap.size, 1, none⟩ = some (.slice pa n pcap) := B1.cell 1
      have c2 : w1.cell? ⟨w.heap.size, 2, none⟩ = some (.slice ca n ccap) := B1.cell 2
      have nB := B1.lt
      clear b1 B1 CF
      go_wp2_with fail
      go_loopg [3] n (fun g s3 wr => ∃ (i : Nat), i ≤ n ∧ g = n - i ∧ s3 = .int .i64 i ∧ (∀ j, j < i → 0 ≤ p j ∧ (b = 0 → q j = 0)) ∧ w1 = wr)
      case atStart => exact ⟨0, Nat.zero_le _, rfl, rfl, fun j hj => absurd hj (Nat.not_lt_zero _), rfl⟩
      case round =>
        obtain ⟨i, hi, rfl, rfl, hal, rfl⟩ := hrel
        have HAL := Lib.hid hal
        clear hal
        by_cases hlt : i < n
        · obtain rfl := HA.out (by omega)
          obtain rfl := HA'.out (by omega)
          have hz2 : (i : Int) < (n : Int) := by omega
          have hw1 : IntKind.i64.wrap ((i : Int) + 1) = (i : Int) + 1 := Go.IntWalk.i64_in _ (by have := HL.out; omega)
          have r1 := HR.out (by omega)
          have r2 := HR'.out (by omega)
          have x0 : w1.cell? ⟨pb, po + i, none⟩ = some (.int .i64 (p i)) := (p1.cell (p := ⟨pb, po + i, none⟩) r1.lt).trans (r1.c i hlt)
          have y0 : w1.cell? ⟨cb, co + i, none⟩ = some (.int .i64 (q i)) := (p1.cell (p := ⟨cb, co + i, none⟩) r2.lt).trans (r2.c i hlt)
          have z1 : pb < w1.heap.size := Nat.lt_of_lt_of_le r1.lt p1.size
          have z2 : cb < w1.heap.size := Nat.lt_of_lt_of_le r2.lt p1.size
          clear r1 r2 HR HR' HA HA'
          by_cases hneg : p i < 0
          · have hn' : (p i < 0) = True := eq_true hneg
            have HN := Lib.hid hneg
            clear hneg
            go_wp2_with fail
            go_ret
            exact ⟨by rw [show T = false from HT.out.symm.trans (decide_eq_false (fun h => by have h1 := (h.2.2 i hlt).1; have h2 := HN.out; omega))]; rfl, p1⟩
          · have hn' : (p i < 0) = False := eq_false hneg
            have HN := Lib.hid hneg
            clear hneg
            by_cases hb0 : b = 0
            · have hb' : (b == 0) = true := by simp [hb0]
              have HB := Lib.hid hb0
              clear hb0
              by_cases hq : q i = 0
              · have hq' : (q i != 0) = false := by simp [hq]
                have HQ := Lib.hid hq
                clear hq
                go_wp2_with fail
                go_roundg (n - (i + 1))
                case measure => omega
                case rel => exact ⟨i + 1, hlt, rfl, (by first | rfl | simp), fun j hj => by
                  rcases Nat.lt_or_ge j i with h1 | h1
                  · exact HAL.out j h1
                  · obtain rfl : j = i := by omega
                    exact ⟨by have := HN.out; omega, fun _ => HQ.out⟩, rfl⟩
              · have hq' : (q i != 0) = true := by simpa using hq
                have HQ := Lib.hid hq
                clear hq
                go_wp2_with fail
                go_ret
                exact ⟨by rw [show T = false from HT.out.symm.trans (decide_eq_false (fun h => HQ.out ((h.2.2 i hlt).2 HB.out)))]; rfl, p1⟩
            · have hb' : (b == 0) = false := by simpa using hb0
              have HB := Lib.hid hb0
              clear hb0
              go_wp2_with fail
              go_roundg (n - (i + 1))
              case measure => omega
              case rel => exact ⟨i + 1, hlt, rfl, (by first | rfl | simp), fun j hj => by
                rcases Nat.lt_or_ge j i with h1 | h1
                · exact HAL.out j h1
                · obtain rfl : j = i := by omega
                  exact ⟨by have := HN.out; omega, fun h => absurd h HB.out⟩, rfl⟩
        · obtain rfl : i = n := by omega
          have hz2 : ¬ ((i : Int) < (i : Int)) := by omega
          go_wp2_with fail
          go_ret
          exact ⟨by rw [show T = true from HT.out.symm.trans (decide_eq_true ⟨H0.out, HPQ.out, HAL.out⟩)]; rfl, p1⟩
  · rw [rightT_neg h0]
    have h0' : (b < 0) = True := eq_true (by omega)
    clear h0 hpr hcr hpa hca
    go_enter Try.func48, Try.ntmps48
    go_wp2_with fail
    go_ret
    exact ⟨rfl, bel_alloc1 _ _⟩
/-- the worlds of a region that draws its order: operations i make values of F; the operation j turns the world to one of Fin -/
structure StC (w0 W : World) (F : Nat → Value → World → Prop) (Fin : World → Prop) (j : Nat) (g : Nat → Value) (L : Nat → Bool) (w' : World) : Prop where
  bel : Below w0.heap.size w0 w'
  ext : L j = false → Below W.heap.size W w'
  at_ : L j = false → ∀ i, L i = true → F i (g i) w'
  fin : L j = true → Fin w'
section
variable {w0 W w' w'' : World} {F : Nat → Value → World → Prop} {Fin : World → Prop} {j : Nat} {g : Nat → Value} {L : Nat → Bool}
theorem StC.loc (g g' : Nat → Value) (L : Nat → Bool) (w' : World) (he : ∀ i, L i = true → g i = g' i) (h : StC w0 W F Fin j g L w') : StC w0 W F Fin j g' L w' :=
  ⟨h.bel, h.ext, fun hj i hi => by rw [← he i hi]; exact h.at_ hj i hi, h.fin⟩
theorem StC.begin (n : Nat) (hb : Below w0.heap.size w0 W) (hj : j < n) (hF : ∀ i u w, n ≤ i → F i u w) : StC w0 W F Fin j g (fun i => decide (n ≤ i)) W.drew :=
  ⟨bel_drew hb, fun _ => (Below.refl _ _).drew, fun _ i hi => hF i _ _ (of_decide_eq_true hi), fun h => absurd (of_decide_eq_true h) (by omega)⟩
theorem StC.upd (h : StC w0 W F Fin j g L w') {i : Nat} (hi : i ≠ j) (hF : ∀ u w, F i u w) : StC w0 W F Fin j g (Go.Proofs.Ytbckfoldjlgabaa.upd L i) w' := by
  have e := upd_other L (Ne.symm hi)
  refine ⟨h.bel, by rw [e]; exact h.ext, fun hj k hk => ?_, by rw [e]; exact h.fin⟩
  rw [e] at hj
  by_cases hki : k = i
  · subst hki; exact hF _ _
  · rw [upd_other L hki] at hk; exact h.at_ hj k hk
theorem StC.new (h : StC w0 W F Fin j g L w') {i : Nat} {u : Value} (hi : i ≠ j) (hj : L j = false) (hb : Below w'.heap.size w' w'') (hk : ∀ i u w w', Below w.heap.size w w' → F i u w → F i u w') (hF : F i u w'') : StC w0 W F Fin j (RV.gset g i u) (Go.Proofs.Ytbckfoldjlgabaa.upd L i) w'' := by
  have e := upd_other L (Ne.symm hi)
  refine ⟨bel_call h.bel hb, fun _ => bel_call (h.ext hj) hb, fun _ k hk' => ?_, fun h' => absurd (e.symm.trans h') (by rw [hj]; decide)⟩
  by_cases hki : k = i
  · subst hki; rw [RV.gset_same]; exact hF
  · rw [upd_other L hki] at hk'; rw [RV.gset_other _ _ hki]; exact hk _ _ _ _ hb (h.at_ hj k hk')
theorem StC.store (h : Below w0.heap.size w0 w'') (hF : Fin w'') : StC w0 W F Fin j g (Go.Proofs.Ytbckfoldjlgabaa.upd L j) w'' :=
  ⟨h, fun a => absurd ((upd_same L j).symm.trans a) (by decide), fun a => absurd ((upd_same L j).symm.trans a) (by decide), fun _ => hF⟩
end
/-- what Step answers -/
def stepT (b : Int) (pl cl to : List Int) : (Int × List Int × List Int) × Int :=
  if rightT b pl cl = true ∧ fwd cl to = true then (if 1099511627776 ≤ b then ((0, [], []), 1) else ((b + 1, cl, to), 0)) else ((0, [], []), 70)
/-- what At answers -/
def atT (b : Int) (pl cl : List Int) (m : Int) : List Int × Bool := if m = b then (cl, true) else if 1 ≤ b ∧ m = b - 1 then (pl, true) else ([], false)
/-- what the operations of Step's last line make -/
def StS (N k1 k2 k3 : Nat) (z : Value) (l1 l2 : List Int) (i : Nat) (u : Value) (w : World) : Prop :=
  (i = k1 → OwnI w N u l1) ∧ (i = k2 → OwnI w N u l2) ∧ (i = k3 → ∃ u1 u2, u = .agg #[z, u1, u2] ∧ OwnI w N u1 l1 ∧ OwnI w N u2 l2)
theorem StS.keep (N k1 k2 k3 : Nat) (z : Value) (l1 l2 : List Int) (i : Nat) (u : Value) (w w' : World) (hb : Below w.heap.size w w') (h : StS N k1 k2 k3 z l1 l2 i u w) : StS N k1 k2 k3 z l1 l2 i u w' :=
  ⟨fun e => (h.1 e).keep hb, fun e => (h.2.1 e).keep hb, fun e => let ⟨u1, u2, h1, h2, h3⟩ := h.2.2 e; ⟨u1, u2, h1, h2.keep hb, h3.keep hb⟩⟩
/-- a triple lies in block b, its lists are the call's own -/
def TrAt (N b : Nat) (z : Value) (l1 l2 : List Int) (w : World) : Prop := ∃ u1 u2, Blk w b [z, u1, u2] 54 ∧ OwnI w N u1 l1 ∧ OwnI w N u2 l2
theorem OwnI.shape {w : World} {N : Nat} {v : Value} {l : List Int} (h : OwnI w N v l) : ∃ a k cap, v = .slice a k cap := by
  obtain ⟨n, p, rfl, hp, ho, hn⟩ := h
  rcases ho.2 with ⟨rfl, _⟩ | ⟨g, cap, cur, rfl, _⟩
  · exact ⟨_, _, _, rfl⟩
  · exact ⟨_, _, _, rfl⟩
theorem OwnI.kind {w : World} {N b : Nat} {v : Value} {l : List Int} (h : OwnI w N v l) (hb : v.ownBlock = some b) : ∃ c, w.heap[b]? = some (.cells c 3 (0, 0)) := by
  obtain ⟨n, p, rfl, hp, ho, hn⟩ := h
  rcases ho.2 with ⟨rfl, _⟩ | ⟨g, cap, cur, rfl, _, h1, _⟩
  · cases hb
  · cases hb; exact ⟨_, h1⟩
theorem OwnI.upd {w w' : World} {X : Nat → Prop} {base : Nat} {v : Value} {l : List Int} (h : OwnI w base v l) (hu : Upd w w' X) (hx : ∀ b, v.ownBlock = some b → ¬ X b) : OwnI w' base v l :=
  let ⟨n, p, h1, h2, h3, h4⟩ := h
  ⟨n, p, h1, h2, ownsRow_upd h3 hu hx, h4⟩
theorem setAll_upd (b : Nat) : ∀ (cs : List Value) (i : Nat) (w : World), Upd w (setAll w b i cs) (fun x => x = b)
  | [], _, w => Upd.refl w _
  | _ :: cs, i, _ => (Upd.of_set (X := fun x => x = b) _ _ rfl).trans (setAll_upd b cs (i + 1) _) (fun _ _ h => h)
theorem trAt_store {N b : Nat} {z u1 u2 : Value} {zs : List Value} {l1 l2 : List Int} {w : World} (hB : Blk w b zs 54) (hz : zs.length = 3) (h1 : OwnI w N u1 l1) (h2 : OwnI w N u2 l2) : TrAt N b z l1 l2 (setAll w b 0 [z, u1, u2]) :=
  ⟨u1, u2, Blk.setAll [z, u1, u2] zs [] hB hz.symm, h1.upd (setAll_upd b _ _ _) (fun _ hb he => kind_ne (h1.kind hb) hB.kind (by decide) he), h2.upd (setAll_upd b _ _ _) (fun _ hb he => kind_ne (h2.kind hb) hB.kind (by decide) he)⟩
set_option maxRecDepth 100000 in
set_option maxHeartbeats 8000000 in
theorem sstep_any {b : Int} {pv cv tv : Value} {pl cl to : List Int} (w : World) (hb : b ≤ 9223372036854775807) (hp : Ints w pv pl) (hc : Ints w cv cl) (ht : Ints w tv to) :
    Calls Try.prog 27 #[.agg #[.int .i64 b, pv, cv], tv] w fun e w' => ∃ r1 r2, e = .returned (.tuple #[.agg #[.int .i64 (stepT b pl cl to).1.1, r1, r2], .int .i64 (stepT b pl cl to).2]) ∧ OwnI w' w.heap.size r1 (stepT b pl cl to).1.2.1 ∧ OwnI w' w.heap.size r2 (stepT b pl cl to).1.2.2 ∧ Below w.heap.size w w' := by
  have CR := Lib.hid (fun W (hW : Below w.heap.size w W) => sright_any (b := b) W (hp.keep hW) (hc.keep hW))
  have CF := Lib.hid (fun W (hW : Below w.heap.size w W) => forward_any W (hc.keep hW) (ht.keep hW))
  have C1 := Lib.hid (fun W (hW : Below w.heap.size w W) => clone_ints W (hc.keep hW))
  have C2 := Lib.hid (fun W (hW : Below w.heap.size w W) => clone_ints W (ht.keep hW))
  have HB := Lib.hid (fun h : rightT b pl cl = true => (rightT_len h).1)
  have hsz : Hid (∀ W : World, (sizeOf 54).run Try.prog W = .ok 3 W) := Lib.hid (fun W => Try.sizeOf54 W)
  obtain ⟨pa, pn, pcap, _, _, _, rfl, -⟩ := hp
  obtain ⟨ca, cn, ccap, _, _, _, rfl, -⟩ := hc
  obtain ⟨ta, tn, tcap, _, _, _, rfl, -⟩ := ht
  unfold stepT
  cases hr : rightT b pl cl with
  | false =>
    rw [hr] at CR
    rw [if_neg (fun h => by cases h.1)]
    clear hr HB
    go_enter Try.func27, Try.ntmps27
    go_wp2_with fail
    refine (CR.out _ (by repeat' (first | with_reducible exact Below.refl _ _ | with_reducible assumption | with_reducible refine bel_drew ?_ | with_reducible refine bel_alloc ?_ _ | with_reducible refine bel_set ?_ ?_ _ | with_reducible refine bel_call ?_ (by assumption) | (dsimp only; omega) | (simp; done) | (simp; omega)))).mono ?_
    rintro e w1 ⟨rfl, b1⟩
    have p1 : Below w.heap.size w w1 := (by repeat' (first | with_reducible exact Below.refl _ _ | with_reducible assumption | with_reducible refine bel_drew ?_ | with_reducible refine bel_alloc ?_ _ | with_reducible refine bel_set ?_ ?_ _ | with_reducible refine bel_call ?_ (by assumption) | (dsimp only; omega) | (simp; done) | (simp; omega)))
    have B : Blk w1 (w.heap.size + 1) [.int .i64 0, .slice none 0 0, .slice none 0 0] 54 := Blk.below (by repeat' (first | with_reducible assumption | (show (_ : List Value) = _; rfl) | with_reducible exact Blk.new _ _ rfl | (with_reducible refine Blk.new _ _ ?_; simp; done) | with_reducible apply Blk.set_eq | with_reducible apply Blk.other | with_reducible apply Blk.alloc | with_reducible apply Blk.drew | (simp; done) | (simp; omega))) b1; have Bc0 : w1.cell? ⟨w.heap.size + 1, 0, none⟩ = some (.int .i64 0) := B.cell 0; have Bc1 : w1.cell? ⟨w.heap.size + 1, 1, none⟩ = some (.slice none 0 0) := B.cell 1; have Bc2 : w1.cell? ⟨w.heap.size + 1, 2, none⟩ = some (.slice none 0 0) := B.cell 2; have Bf0 : w1.frozen? ⟨w.heap.size + 1, 0, none⟩ = false := B.free 0; have Bf1 : w1.frozen? ⟨w.heap.size + 1, 1, none⟩ = false := B.free 1; have Bf2 : w1.frozen? ⟨w.heap.size + 1, 2, none⟩ = false := B.free 2; have Bz := B.lt
    clear b1
    go_wp2_with fail
    refine ret_cell_tmp [.int .i64 0, .slice none 0 0, .slice none 0 0] Try.results27 rfl (Try.isAgg54 _) (Try.sizeOf54 _) (t := 54) (by repeat' (first | with_reducible assumption | (show (_ : List Value) = _; rfl) | with_reducible exact Blk.new _ _ rfl | (with_reducible refine Blk.new _ _ ?_; simp; done) | with_reducible apply Blk.set_eq | with_reducible apply Blk.other | with_reducible apply Blk.alloc | with_reducible apply Blk.drew | (simp; done) | (simp; omega))) rfl ?_
    exact ⟨_, _, rfl, OwnI.nil _ _, OwnI.nil _ _, (by repeat' (first | with_reducible exact Below.refl _ _ | with_reducible assumption | with_reducible refine bel_drew ?_ | with_reducible refine bel_alloc ?_ _ | with_reducible refine bel_set ?_ ?_ _ | with_reducible refine bel_call ?_ (by assumption) | (dsimp only; omega) | (simp; done) | (simp; omega)))⟩
  | true =>
    rw [hr] at CR
    have hb0 := HB.out hr
    clear hr HB
    cases hf : fwd cl to with
    | false =>
      rw [hf] at CF
      rw [if_neg (fun h => by cases h.2)]
      clear hf
      go_enter Try.func27, Try.ntmps27
      go_wp2_with fail
      refine (CR.out _ (by repeat' (first | with_reducible exact Below.refl _ _ | with_reducible assumption | with_reducible refine bel_drew ?_ | with_reducible refine bel_alloc ?_ _ | with_reducible refine bel_set ?_ ?_ _ | with_reducible refine bel_call ?_ (by assumption) | (dsimp only; omega) | (simp; done) | (simp; omega)))).mono ?_
      rintro e w1 ⟨rfl, b1⟩
      have p1 : Below w.heap.size w w1 := (by repeat' (first | with_reducible exact Below.refl _ _ | with_reducible assumption | with_reducible refine bel_drew ?_ | with_reducible refine bel_alloc ?_ _ | with_reducible refine bel_set ?_ ?_ _ | with_reducible refine bel_call ?_ (by assumption) | (dsimp only; omega) | (simp; done) | (simp; omega)))
      have A : Blk w1 (w.heap.size) [.int .i64 b, .slice pa pn pcap, .slice ca cn ccap] 54 := Blk.below (by repeat' (first | with_reducible assumption | (show (_ : List Value) = _; rfl) | with_reducible exact Blk.new _ _ rfl | (with_reducible refine Blk.new _ _ ?_; simp; done) | with_reducible apply Blk.set_eq | with_reducible apply Blk.other | with_reducible apply Blk.alloc | with_reducible apply Blk.drew | (simp; done) | (simp; omega))) b1; have Ac0 : w1.cell? ⟨w.heap.size, 0, none⟩ = some (.int .i64 b) := A.cell 0; have Ac1 : w1.cell? ⟨w.heap.size, 1, none⟩ = some (.slice pa pn pcap) := A.cell 1; have Ac2 : w1.cell? ⟨w.heap.size, 2, none⟩ = some (.slice ca cn ccap) := A.cell 2; have Af0 : w1.frozen? ⟨w.heap.size, 0, none⟩ = false := A.free 0; have Af1 : w1.frozen? ⟨w.heap.size, 1, none⟩ = false := A.free 1; have Af2 : w1.frozen? ⟨w.heap.size, 2, none⟩ = false := A.free 2; have Az := A.lt
      have B : Blk w1 (w.heap.size + 1) [.int .i64 0, .slice none 0 0, .slice none 0 0] 54 := Blk.below (by repeat' (first | with_reducible assumption | (show (_ : List Value) = _; rfl) | with_reducible exact Blk.new _ _ rfl | (with_reducible refine Blk.new _ _ ?_; simp; done) | with_reducible apply Blk.set_eq | with_reducible apply Blk.other | with_reducible apply Blk.alloc | with_reducible apply Blk.drew | (simp; done) | (simp; omega))) b1
      clear b1
      go_wp2_with fail
      refine (CF.out _ p1).mono ?_
      rintro e w2 ⟨rfl, b2⟩
      have p2 : Below w.heap.size w w2 := p1.trans (b2.mono p1.size)
      have D : Blk w2 (w.heap.size + 1) [.int .i64 0, .slice none 0 0, .slice none 0 0] 54 := B.below b2; have Dc0 : w2.cell? ⟨w.heap.size + 1, 0, none⟩ = some (.int .i64 0) := D.cell 0; have Dc1 : w2.cell? ⟨w.heap.size + 1, 1, none⟩ = some (.slice none 0 0) := D.cell 1; have Dc2 : w2.cell? ⟨w.heap.size + 1, 2, none⟩ = some (.slice none 0 0) := D.cell 2; have Df0 : w2.frozen? ⟨w.heap.size + 1, 0, none⟩ = false := D.free 0; have Df1 : w2.frozen? ⟨w.heap.size + 1, 1, none⟩ = false := D.free 1; have Df2 : w2.frozen? ⟨w.heap.size + 1, 2, none⟩ = false := D.free 2; have Dz := D.lt
      clear b2
      go_wp2_with fail
      refine ret_cell_tmp [.int .i64 0, .slice none 0 0, .slice none 0 0] Try.results27 rfl (Try.isAgg54 _) (Try.sizeOf54 _) (t := 54) (by repeat' (first | with_reducible assumption | (show (_ : List Value) = _; rfl) | with_reducible exact Blk.new _ _ rfl | (with_reducible refine Blk.new _ _ ?_; simp; done) | with_reducible apply Blk.set_eq | with_reducible apply Blk.other | with_reducible apply Blk.alloc | with_reducible apply Blk.drew | (simp; done) | (simp; omega))) rfl ?_
      exact ⟨_, _, rfl, OwnI.nil _ _, OwnI.nil _ _, (by repeat' (first | with_reducible exact Below.refl _ _ | with_reducible assumption | with_reducible refine bel_drew ?_ | with_reducible refine bel_alloc ?_ _ | with_reducible refine bel_set ?_ ?_ _ | with_reducible refine bel_call ?_ (by assumption) | (dsimp only; omega) | (simp; done) | (simp; omega)))⟩
    | true =>
      rw [hf] at CF
      rw [if_pos ⟨rfl, rfl⟩]
      clear hf
      by_cases hm : 1099511627776 ≤ b
      · rw [if_pos hm]
        go_enter Try.func27, Try.ntmps27
        go_wp2_with fail
        refine (CR.out _ (by repeat' (first | with_reducible exact Below.refl _ _ | with_reducible assumption | with_reducible refine bel_drew ?_ | with_reducible refine bel_alloc ?_ _ | with_reducible refine bel_set ?_ ?_ _ | with_reducible refine bel_call ?_ (by assumption) | (dsimp only; omega) | (simp; done) | (simp; omega)))).mono ?_
        rintro e w1 ⟨rfl, b1⟩
        have p1 : Below w.heap.size w w1 := (by repeat' (first | with_reducible exact Below.refl _ _ | with_reducible assumption | with_reducible refine bel_drew ?_ | with_reducible refine bel_alloc ?_ _ | with_reducible refine bel_set ?_ ?_ _ | with_reducible refine bel_call ?_ (by assumption) | (dsimp only; omega) | (simp; done) | (simp; omega)))
        have A : Blk w1 (w.heap.size) [.int .i64 b, .slice pa pn pcap, .slice ca cn ccap] 54 := Blk.below (by repeat' (first | with_reducible assumption | (show (_ : List Value) = _; rfl) | with_reducible exact Blk.new _ _ rfl | (with_reducible refine Blk.new _ _ ?_; simp; done) | with_reducible apply Blk.set_eq | with_reducible apply Blk.other | with_reducible apply Blk.alloc | with_reducible apply Blk.drew | (simp; done) | (simp; omega))) b1; have Ac0 : w1.cell? ⟨w.heap.size, 0, none⟩ = some (.int .i64 b) := A.cell 0; have Ac1 : w1.cell? ⟨w.heap.size, 1, none⟩ = some (.slice pa pn pcap) := A.cell 1; have Ac2 : w1.cell? ⟨w.heap.size, 2, none⟩ = some (.slice ca cn ccap) := A.cell 2; have Af0 : w1.frozen? ⟨w.heap.size, 0, none⟩ = false := A.free 0; have Af1 : w1.frozen? ⟨w.heap.size, 1, none⟩ = false := A.free 1; have Af2 : w1.frozen? ⟨w.heap.size, 2, none⟩ = false := A.free 2; have Az := A.lt
        have B : Blk w1 (w.heap.size + 1) [.int .i64 0, .slice none 0 0, .slice none 0 0] 54 := Blk.below (by repeat' (first | with_reducible assumption | (show (_ : List Value) = _; rfl) | with_reducible exact Blk.new _ _ rfl | (with_reducible refine Blk.new _ _ ?_; simp; done) | with_reducible apply Blk.set_eq | with_reducible apply Blk.other | with_reducible apply Blk.alloc | with_reducible apply Blk.drew | (simp; done) | (simp; omega))) b1
        clear b1
        go_wp2_with fail
        refine (CF.out _ p1).mono ?_
        rintro e w2 ⟨rfl, b2⟩
        have p2 : Below w.heap.size w w2 := p1.trans (b2.mono p1.size)
        have E : Blk w2 (w.heap.size) [.int .i64 b, .slice pa pn pcap, .slice ca cn ccap] 54 := A.below b2; have Ec0 : w2.cell? ⟨w.heap.size, 0, none⟩ = some (.int .i64 b) := E.cell 0; have Ec1 : w2.cell? ⟨w.heap.size, 1, none⟩ = some (.slice pa pn pcap) := E.cell 1; have Ec2 : w2.cell? ⟨w.heap.size, 2, none⟩ = some (.slice ca cn ccap) := E.cell 2; have Ef0 : w2.frozen? ⟨w.heap.size, 0, none⟩ = false := E.free 0; have Ef1 : w2.frozen? ⟨w.heap.size, 1, none⟩ = false := E.free 1; have Ef2 : w2.frozen? ⟨w.heap.size, 2, none⟩ = false := E.free 2; have Ez := E.lt
        have D : Blk w2 (w.heap.size + 1) [.int .i64 0, .slice none 0 0, .slice none 0 0] 54 := B.below b2; have Dc0 : w2.cell? ⟨w.heap.size + 1, 0, none⟩ = some (.int .i64 0) := D.cell 0; have Dc1 : w2.cell? ⟨w.heap.size + 1, 1, none⟩ = some (.slice none 0 0) := D.cell 1; have Dc2 : w2.cell? ⟨w.heap.size + 1, 2, none⟩ = some (.slice none 0 0) := D.cell 2; have Df0 : w2.frozen? ⟨w.heap.size + 1, 0, none⟩ = false := D.free 0; have Df1 : w2.frozen? ⟨w.heap.size + 1, 1, none⟩ = false := D.free 1; have Df2 : w2.frozen? ⟨w.heap.size + 1, 2, none⟩ = false := D.free 2; have Dz := D.lt
        clear b2 A B Ac0 Ac1 Ac2
        go_wp2_with fail
        refine ret_cell_tmp [.int .i64 0, .slice none 0 0, .slice none 0 0] Try.results27 rfl (Try.isAgg54 _) (Try.sizeOf54 _) (t := 54) (by repeat' (first | with_reducible assumption | (show (_ : List Value) = _; rfl) | with_reducible exact Blk.new _ _ rfl | (with_reducible refine Blk.new _ _ ?_; simp; done) | with_reducible apply Blk.set_eq | with_reducible apply Blk.other | with_reducible apply Blk.alloc | with_reducible apply Blk.drew | (simp; done) | (simp; omega))) rfl ?_
        exact ⟨_, _, rfl, OwnI.nil _ _, OwnI.nil _ _, (by repeat' (first | with_reducible exact Below.refl _ _ | with_reducible assumption | with_reducible refine bel_drew ?_ | with_reducible refine bel_alloc ?_ _ | with_reducible refine bel_set ?_ ?_ _ | with_reducible refine bel_call ?_ (by assumption) | (dsimp only; omega) | (simp; done) | (simp; omega)))⟩
      · rw [if_neg hm]
        have hw1 : IntKind.i64.wrap (b + 1) = b + 1 := Go.IntWalk.i64_in _ (by omega)
        have HM := Lib.hid hm
        go_enter Try.func27, Try.ntmps27
        go_wp2_with fail
        refine (CR.out _ (by repeat' (first | with_reducible exact Below.refl _ _ | with_reducible assumption | with_reducible refine bel_drew ?_ | with_reducible refine bel_alloc ?_ _ | with_reducible refine bel_set ?_ ?_ _ | with_reducible refine bel_call ?_ (by assumption) | (dsimp only; omega) | (simp; done) | (simp; omega)))).mono ?_
        rintro e w1 ⟨rfl, b1⟩
        have p1 : Below w.heap.size w w1 := (by repeat' (first | with_reducible exact Below.refl _ _ | with_reducible assumption | with_reducible refine bel_drew ?_ | with_reducible refine bel_alloc ?_ _ | with_reducible refine bel_set ?_ ?_ _ | with_reducible refine bel_call ?_ (by assumption) | (dsimp only; omega) | (simp; done) | (simp; omega)))
        have A : Blk w1 (w.heap.size) [.int .i64 b, .slice pa pn pcap, .slice ca cn ccap] 54 := Blk.below (by repeat' (first | with_reducible assumption | (show (_ : List Value) = _; rfl) | with_reducible exact Blk.new _ _ rfl | (with_reducible refine Blk.new _ _ ?_; simp; done) | with_reducible apply Blk.set_eq | with_reducible apply Blk.other | with_reducible apply Blk.alloc | with_reducible apply Blk.drew | (simp; done) | (simp; omega))) b1; have Ac0 : w1.cell? ⟨w.heap.size, 0, none⟩ = some (.int .i64 b) := A.cell 0; have Ac1 : w1.cell? ⟨w.heap.size, 1, none⟩ = some (.slice pa pn pcap) := A.cell 1; have Ac2 : w1.cell? ⟨w.heap.size, 2, none⟩ = some (.slice ca cn ccap) := A.cell 2; have Af0 : w1.frozen? ⟨w.heap.size, 0, none⟩ = false := A.free 0; have Af1 : w1.frozen? ⟨w.heap.size, 1, none⟩ = false := A.free 1; have Af2 : w1.frozen? ⟨w.heap.size, 2, none⟩ = false := A.free 2; have Az := A.lt
        have B : Blk w1 (w.heap.size + 1) [.int .i64 0, .slice none 0 0, .slice none 0 0] 54 := Blk.below (by repeat' (first | with_reducible assumption | (show (_ : List Value) = _; rfl) | with_reducible exact Blk.new _ _ rfl | (with_reducible refine Blk.new _ _ ?_; simp; done) | with_reducible apply Blk.set_eq | with_reducible apply Blk.other | with_reducible apply Blk.alloc | with_reducible apply Blk.drew | (simp; done) | (simp; omega))) b1
        clear b1
        go_wp2_with fail
        refine (CF.out _ p1).mono ?_
        rintro e w2 ⟨rfl, b2⟩
        have p2 : Below w.heap.size w w2 := p1.trans (b2.mono p1.size)
        have E : Blk w2 (w.heap.size) [.int .i64 b, .slice pa pn pcap, .slice ca cn ccap] 54 := A.below b2; have Ec0 : w2.cell? ⟨w.heap.size, 0, none⟩ = some (.int .i64 b) := E.cell 0; have Ec1 : w2.cell? ⟨w.heap.size, 1, none⟩ = some (.slice pa pn pcap) := E.cell 1; have Ec2 : w2.cell? ⟨w.heap.size, 2, none⟩ = some (.slice ca cn ccap) := E.cell 2; have Ef0 : w2.frozen? ⟨w.heap.size, 0, none⟩ = false := E.free 0; have Ef1 : w2.frozen? ⟨w.heap.size, 1, none⟩ = false := E.free 1; have Ef2 : w2.frozen? ⟨w.heap.size, 2, none⟩ = false := E.free 2; have Ez := E.lt
        have D := B.below b2
        clear b2 A B Ac0 Ac1 Ac2
        go_wp2_with fail
        refine RV.wp_region_ghost (StC w w2 (StS w.heap.size 5 7 8 (.int .i64 (b + 1)) cl to) (TrAt w.heap.size (w.heap.size + 1) (.int .i64 (b + 1)) cl to) 9) (by kernel_rfl) (by kernel_rfl) StC.loc (.begin _ p2 (by decide) (fun i u w' hi => ⟨fun h => absurd hi (by subst h; decide), fun h => absurd hi (by subst h; decide), fun h => absurd hi (by subst h; decide)⟩)) ?_
        refine RV.lexg_val (fun _ => by rfl) ?_; apply Exists.intro; refine ⟨?_, ?_⟩; ((intro g L w' hU hT; have hT' := hT.upd (i := 0) (by decide) (fun _ _ => ⟨fun h => absurd h (by decide), fun h => absurd h (by decide), fun h => absurd h (by decide)⟩); clear hT hU; go_simp; exact rfl)); simp only [Act.put, List.setIfInBounds_toArray, List.set_cons_zero, List.set_cons_succ]
        refine RV.lexg_val (fun _ => by rfl) ?_; apply Exists.intro; refine ⟨?_, ?_⟩; ((intro g L w' hU hT; have hT' := hT.upd (i := 1) (by decide) (fun _ _ => ⟨fun h => absurd h (by decide), fun h => absurd h (by decide), fun h => absurd h (by decide)⟩); have hs2 := hU.closed.no (j := 2) (i := 1) rfl (by kernel_rfl) hU.not; have hs8 := hU.closed.no (j := 8) (i := 2) rfl (by kernel_rfl) hs2; have hs9 := hU.closed.no (j := 9) (i := 8) rfl (by kernel_rfl) hs8; obtain ⟨hc, hf⟩ := bcell (hT.ext hs9); clear hT hU hs2 hs8 hs9; go_simp; exact rfl)); simp only [Act.put, List.setIfInBounds_toArray, List.set_cons_zero, List.set_cons_succ]
        refine RV.lexg_val (fun _ => by rfl) ?_; apply Exists.intro; refine ⟨?_, ?_⟩; ((intro g L w' hU hT; have hT' := hT.upd (i := 2) (by decide) (fun _ _ => ⟨fun h => absurd h (by decide), fun h => absurd h (by decide), fun h => absurd h (by decide)⟩); clear hT hU; go_simp; exact rfl)); simp only [Act.put, List.setIfInBounds_toArray, List.set_cons_zero, List.set_cons_succ]
        refine RV.lexg_val (fun _ => by rfl) ?_; apply Exists.intro; refine ⟨?_, ?_⟩; ((intro g L w' hU hT; have hT' := hT.upd (i := 3) (by decide) (fun _ _ => ⟨fun h => absurd h (by decide), fun h => absurd h (by decide), fun h => absurd h (by decide)⟩); clear hT hU; go_simp; exact rfl)); simp only [Act.put, List.setIfInBounds_toArray, List.set_cons_zero, List.set_cons_succ]
        refine RV.lexg_val (fun _ => by rfl) ?_; apply Exists.intro; refine ⟨?_, ?_⟩; ((intro g L w' hU hT; have hT' := hT.upd (i := 4) (by decide) (fun _ _ => ⟨fun h => absurd h (by decide), fun h => absurd h (by decide), fun h => absurd h (by decide)⟩); have hs5 := hU.closed.no (j := 5) (i := 4) rfl (by kernel_rfl) hU.not; have hs8 := hU.closed.no (j := 8) (i := 5) rfl (by kernel_rfl) hs5; have hs9 := hU.closed.no (j := 9) (i := 8) rfl (by kernel_rfl) hs8; obtain ⟨hc, hf⟩ := bcell (hT.ext hs9); clear hT hU hs5 hs8 hs9; go_simp; exact rfl)); simp only [Act.put, List.setIfInBounds_toArray, List.set_cons_zero, List.set_cons_succ]
        refine RV.lexg_new (fun _ => by rfl) ?_ ?_; (next => (intro g L w' hU hT; have p' := hT.bel; have hs8 := hU.closed.no (j := 8) (i := 5) rfl (by kernel_rfl) hU.not; have hs9 := hU.closed.no (j := 9) (i := 8) rfl (by kernel_rfl) hs8; refine lx_call (f := 33) (args := #[.slice ca cn ccap]) (w' := w') (by go_simp) ((C1.out _ hT.bel).mono ?_); rintro e w'' ⟨u, rfl, hv, hb⟩; exact ⟨u, rfl, hT.new (by decide) hs9 hb (StS.keep _ _ _ _ _ _ _) ⟨fun _ => hv.base p'.size, fun h => absurd h (by decide), fun h => absurd h (by decide)⟩⟩)); simp only [Act.put, List.setIfInBounds_toArray, List.set_cons_zero, List.set_cons_succ]
        refine RV.lexg_val (fun _ => by rfl) ?_; apply Exists.intro; refine ⟨?_, ?_⟩; ((intro g L w' hU hT; have hT' := hT.upd (i := 6) (by decide) (fun _ _ => ⟨fun h => absurd h (by decide), fun h => absurd h (by decide), fun h => absurd h (by decide)⟩); clear hT hU; go_simp; exact rfl)); simp only [Act.put, List.setIfInBounds_toArray, List.set_cons_zero, List.set_cons_succ]
        refine RV.lexg_new (fun _ => by rfl) ?_ ?_; (next => (intro g L w' hU hT; have p' := hT.bel; have hs8 := hU.closed.no (j := 8) (i := 7) rfl (by kernel_rfl) hU.not; have hs9 := hU.closed.no (j := 9) (i := 8) rfl (by kernel_rfl) hs8; refine lx_call (f := 33) (args := #[.slice ta tn tcap]) (w' := w') (by go_simp) ((C2.out _ hT.bel).mono ?_); rintro e w'' ⟨u, rfl, hv, hb⟩; exact ⟨u, rfl, hT.new (by decide) hs9 hb (StS.keep _ _ _ _ _ _ _) ⟨fun h => absurd h (by decide), fun _ => hv.base p'.size, fun h => absurd h (by decide)⟩⟩)); simp only [Act.put, List.setIfInBounds_toArray, List.set_cons_zero, List.set_cons_succ]
        refine RV.lexg_new (fun _ => by rfl) ?_ ?_
        · intro g L w' hU hT
          have h9 := hU.closed.no (j := 9) (i := 8) rfl (by kernel_rfl) hU.not
          have o1 := (hT.at_ h9 5 (hU.yes rfl (by kernel_rfl))).1 rfl
          have o2 := (hT.at_ h9 7 (hU.yes rfl (by kernel_rfl))).2.1 rfl
          refine lx_ok (u := .agg #[.int .i64 (b + 1), g 5, g 7]) (w' := w') ?_ (hT.new (by decide) h9 (Below.refl _ _) (StS.keep _ _ _ _ _ _ _) ⟨fun h => absurd h (by decide), fun h => absurd h (by decide), fun _ => ⟨_, _, rfl, o1, o2⟩⟩)
          obtain ⟨a1, k1, m1, e1⟩ := o1.shape
          obtain ⟨a2, k2, m2, e2⟩ := o2.shape
          rw [e1, e2]
          clear hT hU o1 o2 e1 e2
          go_simp
        simp only [Act.put, List.setIfInBounds_toArray, List.set_cons_zero, List.set_cons_succ]
        refine RV.lexg_op (fun _ => by rfl) ?_
        refine ⟨fun _ => undef, ?_, RV.known_const _ _, ?_⟩
        · intro g L w' hU hT
          obtain ⟨u1, u2, e8, o1, o2⟩ := (hT.at_ hU.not 8 (hU.yes rfl (by kernel_rfl))).2.2 rfl
          obtain ⟨a1, k1, m1, rfl⟩ := o1.shape
          obtain ⟨a2, k2, m2, rfl⟩ := o2.shape
          have hB := D.below (hT.ext hU.not)
          have hT' : StC w w2 (StS w.heap.size 5 7 8 (.int .i64 (b + 1)) cl to) (TrAt w.heap.size (w.heap.size + 1) (.int .i64 (b + 1)) cl to) 9 g (upd L 9) (setAll w' (w.heap.size + 1) 0 [.int .i64 (b + 1), .slice a1 k1 m1, .slice a2 k2 m2]) := StC.store (setAll_below (by omega) _ _ hT.bel) (trAt_store hB rfl o1 o2)
          have zc0 := hB.cell 0; have zf0 := hB.free 0; have zc1 := hB.cell 1; have zf1 := hB.free 1; have zc2 := hB.cell 2; have zf2 := hB.free 2
          simp only [List.getElem?_cons_zero, List.getElem?_cons_succ] at zc0 zc1 zc2
          clear hT hU o1 o2 hB
          rw [e8]
          go_simp
          first | exact hT' | exact ⟨hT', rfl⟩
        simp only [Act.put]
        refine RV.lexg_val (fun _ => by rfl) ?_; apply Exists.intro; refine ⟨?_, ?_⟩; ((intro g L w' hU hT; have hT' := hT.upd (i := 10) (by decide) (fun _ _ => ⟨fun h => absurd h (by decide), fun h => absurd h (by decide), fun h => absurd h (by decide)⟩); clear hT hU; go_simp; exact rfl)); simp only [Act.put, List.setIfInBounds_toArray, List.set_cons_zero, List.set_cons_succ]
        refine RV.lexg_nil ?_
        intro g w6 hT
        have p6 := hT.bel
        obtain ⟨r1, r2, hB, o1, o2⟩ := hT.fin rfl
        clear hT
        go_wp2_with fail
        refine ret_cell_tmp [.int .i64 (b + 1), r1, r2] Try.results27 rfl (Try.isAgg54 _) (Try.sizeOf54 _) (t := 54) ?_ rfl ?_; next => (exact hB)
        exact ⟨_, _, rfl, o1, o2, p6⟩
end Go.Proofs.Ytbckfoldjlgabaa
