/- WALK of the library's FormatUint in base 10. -/
import Derived.Test.YtelofaceadlfmaaDoorAggQ
namespace Go.Proofs.YtelofaceadlfmaaDoor
open Go.RowKit Go.Sort
set_option maxRecDepth 100000 in
set_option maxHeartbeats 4000000 in
theorem ifu10_any (u : Nat) (w : World) (hu : u < 2 ^ 64) (ht : Tab w) :
    Calls Tryd.prog 42 #[.int .u64 (u : Int), .int .i64 10] w fun e w' => e = .returned (.string ⟨(Lib.decDigits u).toArray⟩) ∧ Below w.heap.size w w' := by
  by_cases hs : u < 100
  · have C1 := Lib.hid (fun w => Tryd.internal_strconv_small u hs w)
    have hz : (u : Int) < 100 := by omega
    clear ht hu
    go_enter Tryd.func42, Tryd.ntmps42
    go_wp2_with fail
    refine (C1.out _).mono ?_
    rintro e w1 ⟨rfl, rfl⟩
    go_wp2_with fail
    go_ret
    exact ⟨rfl, (by repeat' (first | with_reducible exact Below.refl _ _ | with_reducible assumption | with_reducible refine bel_drew ?_ | with_reducible refine bel_alloc ?_ _ | with_reducible refine bel_set ?_ ?_ _ | with_reducible refine bel_call ?_ (by assumption) | (dsimp only; omega) | (simp; done) | (simp; omega)))⟩
  · have hz : ¬ (u : Int) < 100 := by omega
    have hnd : Lib.nDigits u ≤ 20 := by have := Lib.numDigits_eq u (by omega) (by omega); split at this <;> omega
    have C1 : Hid (∀ w2, Below w.heap.size w w2 → Calls Tryd.prog 56 #[.int .u64 (u : Int)] w2 fun e w' => e = .returned (.int .i64 (Lib.nDigits u)) ∧ w' = w2) :=
      Lib.hid (fun w2 hb => Tryd.internal_strconv_numDigits u (by omega) (by omega) w2 (ht.below hb))
    have hH0 := Lib.holds_zero0 w 74 (Lib.nDigits u) (by omega)
    have hfmt := Tryd.internal_strconv_formatBase10 w.heap.size 0 24 u (Array.replicate (Lib.nDigits u) 0) (w.alloc (.cells Lib.zeros24 74)) hH0 (by rw [Array.size_replicate]; exact Lib.lt_pow_nDigits u) (by omega) (by rw [Array.size_replicate]; omega)
    rw [Array.size_replicate] at hfmt
    have HH0 := Lib.hid hH0
    have HF := Lib.hid hfmt
    have hal : Tryd.prog.arrayLen 74 = 24 := by simp [Program.arrayLen, Tryd.underlying74]
    have hsl : ∀ W, (Instr.sliceAt 74 (.pointer (some ⟨w.heap.size, 0, none⟩)) none (some (.int .i64 (Lib.nDigits u : Int))) none).run Tryd.prog W = .ok (.slice (some ⟨w.heap.size, 0, none⟩) (Lib.nDigits u) 24) W := fun W => by
      rw [run_sliceAt_array_h W 74 ⟨w.heap.size, 0, none⟩ (by simp [Program.arrayLen, Program.elem, Tryd.underlying74]) .i64 (Lib.nDigits u : Int) (by omega) (by rw [hal]; omega)]
      go_simp
    clear hH0 hfmt hal
    go_enter Tryd.func42, Tryd.ntmps42
    go_wp2_with fail
    refine (C1.out _ (by repeat' (first | with_reducible exact Below.refl _ _ | with_reducible assumption | with_reducible refine bel_drew ?_ | with_reducible refine bel_alloc ?_ _ | with_reducible refine bel_set ?_ ?_ _ | with_reducible refine bel_call ?_ (by assumption) | (dsimp only; omega) | (simp; done) | (simp; omega)))).mono ?_
    rintro e w1 ⟨rfl, rfl⟩
    go_wp2_with fail
    refine HF.out.mono ?_
    rintro e w2 ⟨rfl, k, v', dk, hw, hF⟩
    have p2 : Below w.heap.size w w2 := by
      obtain ⟨os, eo⟩ := Lib.fin_at w (.cells Lib.zeros24 74) dk k 0
      rw [hw, eo]
      exact below_grow w k os
    have hcv : (convert 61 9 (.slice (some ⟨w.heap.size, 0, none⟩) (Lib.nDigits u) 24)).run Tryd.prog w2 = .ok (.string ⟨(Lib.decDigits u).toArray⟩) w2 := by
      have h := run_convert_bytes_back (P := Tryd.prog) w2 61 9 5 ⟨w.heap.size, 0, none⟩ 24 (Lib.decDigits u) Tryd.underlying61 Tryd.underlying5 Tryd.underlying9 (fun j hj => by
        rw [hw, Lib.row_is_numeral hF j hj, Lib.add_plain, World.cell?_drewN]
        exact cell?_putRow (fun (b : UInt8) => Value.int .u8 (b.toNat : Int)) _ w.heap.size 0 _ dk HH0.out (by rw [hF.size, Array.size_replicate]) j (by rw [hF.size]; rw [Lib.decDigits_length] at hj; exact hj))
      rw [Lib.decDigits_length] at h
      exact h
    clear hw hF HF HH0 C1 ht
    go_wp2_with fail
    go_ret
    exact ⟨rfl, p2⟩
set_option maxHeartbeats 400000 in
theorem fu10_any (u : Nat) (w : World) (hu : u < 2 ^ 64) (ht : Tab w) :
    Calls Tryd.prog 34 #[.int .u64 (u : Int), .int .i64 10] w fun e w' => e = .returned (.string ⟨(Lib.decDigits u).toArray⟩) ∧ Below w.heap.size w w' := by
  have C1 := Lib.hid (ifu10_any u w hu ht)
  clear hu ht
  go_enter Tryd.func34, Tryd.ntmps34
  go_wp2_with fail
  refine C1.out.mono ?_
  rintro e w1 ⟨rfl, hb⟩
  go_wp2_with fail
  go_ret
  exact ⟨rfl, hb⟩
end Go.Proofs.YtelofaceadlfmaaDoor
