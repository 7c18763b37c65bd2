/- WALKS of law07: triples: the search in a list. -/
import Derived.Test.YtbckfoldjlgabaaSpW
namespace Go.Proofs.Ytbckfoldjlgabaa
open Go.RowKit
open Fl (nan key canon)
set_option maxRecDepth 100000 in
theorem below0_any (z : Int) (w : World) : Calls Try.prog 62 #[.int .i64 z] w fun e w' => e = .returned (.bool (decide (z < 0))) ∧ w = w' := by
  go_enter Try.func62, Try.ntmps62
  go_wp2_with fail
  go_ret
  exact ⟨rfl, rfl⟩
set_option maxRecDepth 100000 in
theorem not0_any (z : Int) (w : World) : Calls Try.prog 64 #[.int .i64 z] w fun e w' => e = .returned (.bool (z != 0)) ∧ w = w' := by
  go_enter Try.func64, Try.ntmps64
  go_wp2_with fail
  go_ret
  exact ⟨rfl, rfl⟩
set_option maxRecDepth 100000 in
set_option maxHeartbeats 4000000 in
theorem indexNeg_any {v : Value} {l : List Int} (w : World) (h : Ints w v l) :
    Calls Try.prog 69 #[v, .func (.func 62) #[] #[]] w fun e w' => ∃ k : Int, e = .returned (.int .i64 k) ∧ decide (0 ≤ k) = l.any (fun z => decide (z < 0)) ∧ w = w' := by
  obtain ⟨a, n, cap, b, o, p, rfl, rfl, ha, hr, hc, hm⟩ := h
  have HR := Lib.hid hr
  have HA := Lib.hid ha
  have HL : Hid (n ≤ 17592186043904) := Lib.hid hm.2
  have C1 := Lib.hid (fun z W => below0_any z W)
  clear hr ha hc hm
  go_enter Try.func69, Try.ntmps69
  go_wp2_with fail
  go_loopg [8] n (fun g s8 wr => ∃ (i : Nat), i ≤ n ∧ g = n - i ∧ s8 = .int .i64 i ∧ (∀ j, j < i → (fun z : Int => decide (z < 0)) (p j) = false) ∧ w = wr)
  case atStart => exact ⟨0, Nat.zero_le _, rfl, rfl, fun j hj => absurd hj (Nat.not_lt_zero _), rfl⟩
  case round =>
    obtain ⟨i, hi, rfl, rfl, hal, rfl⟩ := hrel
    have HAL := Lib.hid hal
    clear hal
    by_cases hlt : i < n
    · obtain rfl := HA.out (by omega)
      have hz2 : (i : Int) < (n : Int) := by omega
      have hw1 : IntKind.i64.wrap ((i : Int) + 1) = (i : Int) + 1 := Go.IntWalk.i64_in _ (by have := HL.out; omega)
      have r1 := HR.out (by omega)
      have x0 := r1.c i hlt
      have z1 := r1.lt
      have C2 := Lib.hid (C1.out (p i) w)
      clear r1 C1
      cases hq : (fun z : Int => decide (z < 0)) (p i) with
      | true =>
        have hq' : (decide (p i < 0)) = true := hq
        rw [hq'] at C2
        have HF : Hid (decide (0 ≤ (i : Int)) = (toL n p).any (fun z => decide (z < 0))) := Lib.hid (by
          rw [decide_eq_true (by omega)]
          exact (List.any_eq_true.2 ⟨p i, List.mem_of_getElem? (toL_get hlt), hq⟩).symm)
        clear hq hq'
        go_wp2_with fail
        refine C2.out.mono ?_
        rintro e w' ⟨rfl, rfl⟩
        go_wp2_with fail
        go_ret
        exact ⟨_, rfl, HF.out, rfl⟩
      | false =>
        have hq' : (decide (p i < 0)) = false := hq
        rw [hq'] at C2
        have HQ := Lib.hid hq
        clear hq hq'
        go_wp2_with fail
        refine C2.out.mono ?_
        rintro e w' ⟨rfl, rfl⟩
        go_wp2_with fail
        go_roundg (n - (i + 1))
        case measure => omega
        case rel => exact ⟨i + 1, hlt, rfl, (by first | rfl | simp), fun j hj => by
          rcases Nat.lt_or_ge j i with h1 | h1
          · exact HAL.out j h1
          · obtain rfl : j = i := by omega
            exact HQ.out, rfl⟩
    · obtain rfl : i = n := by omega
      have hz2 : ¬ ((i : Int) < (i : Int)) := by omega
      have HF : Hid (decide (0 ≤ (-1 : Int)) = (toL i p).any (fun z => decide (z < 0))) := Lib.hid (by
        rw [decide_eq_false (by decide)]
        symm
        rw [List.any_eq_false]
        intro x hx
        obtain ⟨j, hj⟩ := List.mem_iff_getElem?.1 hx
        have hjn : j < i := by have := (List.getElem?_eq_some_iff.1 hj).1; rwa [toL_len] at this
        rw [toL_get hjn] at hj
        cases hj
        have := HAL.out j hjn
        simpa using this)
      go_wp2_with fail
      go_ret
      exact ⟨_, rfl, HF.out, rfl⟩
set_option maxRecDepth 100000 in
set_option maxHeartbeats 4000000 in
theorem indexNot_any {v : Value} {l : List Int} (w : World) (h : Ints w v l) :
    Calls Try.prog 69 #[v, .func (.func 64) #[] #[]] w fun e w' => ∃ k : Int, e = .returned (.int .i64 k) ∧ decide (0 ≤ k) = l.any (fun z => z != 0) ∧ w = w' := by
  obtain ⟨a, n, cap, b, o, p, rfl, rfl, ha, hr, hc, hm⟩ := h
  have HR := Lib.hid hr
  have HA := Lib.hid ha
  have HL : Hid (n ≤ 17592186043904) := Lib.hid hm.2
  have C1 := Lib.hid (fun z W => not0_any z W)
  clear hr ha hc hm
  go_enter Try.func69, Try.ntmps69
  go_wp2_with fail
  go_loopg [8] n (fun g s8 wr => ∃ (i : Nat), i ≤ n ∧ g = n - i ∧ s8 = .int .i64 i ∧ (∀ j, j < i → (fun z : Int => z != 0) (p j) = false) ∧ w = wr)
  case atStart => exact ⟨0, Nat.zero_le _, rfl, rfl, fun j hj => absurd hj (Nat.not_lt_zero _), rfl⟩
  case round =>
    obtain ⟨i, hi, rfl, rfl, hal, rfl⟩ := hrel
    have HAL := Lib.hid hal
    clear hal
    by_cases hlt : i < n
    · obtain rfl := HA.out (by omega)
      have hz2 : (i : Int) < (n : Int) := by omega
      have hw1 : IntKind.i64.wrap ((i : Int) + 1) = (i : Int) + 1 := Go.IntWalk.i64_in _ (by have := HL.out; omega)
      have r1 := HR.out (by omega)
      have x0 := r1.c i hlt
      have z1 := r1.lt
      have C2 := Lib.hid (C1.out (p i) w)
      clear r1 C1
      cases hq : (fun z : Int => z != 0) (p i) with
      | true =>
        have hq' : (p i != 0) = true := hq
        rw [hq'] at C2
        have HF : Hid (decide (0 ≤ (i : Int)) = (toL n p).any (fun z => z != 0)) := Lib.hid (by
          rw [decide_eq_true (by omega)]
          exact (List.any_eq_true.2 ⟨p i, List.mem_of_getElem? (toL_get hlt), hq⟩).symm)
        clear hq hq'
        go_wp2_with fail
        refine C2.out.mono ?_
        rintro e w' ⟨rfl, rfl⟩
        go_wp2_with fail
        go_ret
        exact ⟨_, rfl, HF.out, rfl⟩
      | false =>
        have hq' : (p i != 0) = false := hq
        rw [hq'] at C2
        have HQ := Lib.hid hq
        clear hq hq'
        go_wp2_with fail
        refine C2.out.mono ?_
        rintro e w' ⟨rfl, rfl⟩
        go_wp2_with fail
        go_roundg (n - (i + 1))
        case measure => omega
        case rel => exact ⟨i + 1, hlt, rfl, (by first | rfl | simp), fun j hj => by
          rcases Nat.lt_or_ge j i with h1 | h1
          · exact HAL.out j h1
          · obtain rfl : j = i := by omega
            exact HQ.out, rfl⟩
    · obtain rfl : i = n := by omega
      have hz2 : ¬ ((i : Int) < (i : Int)) := by omega
      have HF : Hid (decide (0 ≤ (-1 : Int)) = (toL i p).any (fun z => z != 0)) := Lib.hid (by
        rw [decide_eq_false (by decide)]
        symm
        rw [List.any_eq_false]
        intro x hx
        obtain ⟨j, hj⟩ := List.mem_iff_getElem?.1 hx
        have hjn : j < i := by have := (List.getElem?_eq_some_iff.1 hj).1; rwa [toL_len] at this
        rw [toL_get hjn] at hj
        cases hj
        have := HAL.out j hjn
        simpa using this)
      go_wp2_with fail
      go_ret
      exact ⟨_, rfl, HF.out, rfl⟩
end Go.Proofs.Ytbckfoldjlgabaa
