/- WALK of the library's FormatUint in base 16. -/
import Derived.Test.YtelofaceadlfmaaDoorFmtA
import Derived.Test.YtelofaceadlfmaaDoorSetC
import Derived.Test.YtelofaceadlfmaaDoorLaid
namespace Go.Proofs.YtelofaceadlfmaaDoor
open Go.RowKit Go.Sort
/-- a digit -/
def hd (d : Nat) : UInt8 := UInt8.ofNat (if d < 10 then 48 + d else 87 + d)
/-- the digits of u in base 16, no leading nought -/
def hexD (u : Nat) : List UInt8 := if _h : u < 16 then [hd u] else hexD (u / 16) ++ [hd (u % 16)]
termination_by u
decreasing_by omega
theorem hexD_small {u : Nat} (h : u < 16) : hexD u = [hd u] := by rw [hexD, dif_pos h]
theorem hexD_big {u : Nat} (h : ¬ u < 16) : hexD u = hexD (u / 16) ++ [hd (u % 16)] := by rw [hexD, dif_neg h]
def u8c (b : UInt8) : Value := .int .u8 (b.toNat : Int)
theorem run_digit36 (d : Nat) (h : d < 16) (W : World) : (Instr.index 9 (.string ⟨#[48, 49, 50, 51, 52, 53, 54, 55, 56, 57, 97, 98, 99, 100, 101, 102, 103, 104, 105, 106, 107, 108, 109, 110, 111, 112, 113, 114, 115, 116, 117, 118, 119, 120, 121, 122]⟩) (.int .u64 (d : Int))).run Tryd.prog W = .ok (.int .u8 ((hd d).toNat : Int)) W :=
  match d, h with
  | 0, _ => show (Instr.index 9 (.string ⟨#[48, 49, 50, 51, 52, 53, 54, 55, 56, 57, 97, 98, 99, 100, 101, 102, 103, 104, 105, 106, 107, 108, 109, 110, 111, 112, 113, 114, 115, 116, 117, 118, 119, 120, 121, 122]⟩) (.int .u64 0)).run Tryd.prog W = .ok (.int .u8 ((hd 0).toNat : Int)) W by kernel_rfl
  | 1, _ => show (Instr.index 9 (.string ⟨#[48, 49, 50, 51, 52, 53, 54, 55, 56, 57, 97, 98, 99, 100, 101, 102, 103, 104, 105, 106, 107, 108, 109, 110, 111, 112, 113, 114, 115, 116, 117, 118, 119, 120, 121, 122]⟩) (.int .u64 1)).run Tryd.prog W = .ok (.int .u8 ((hd 1).toNat : Int)) W by kernel_rfl
  | 2, _ => show (Instr.index 9 (.string ⟨#[48, 49, 50, 51, 52, 53, 54, 55, 56, 57, 97, 98, 99, 100, 101, 102, 103, 104, 105, 106, 107, 108, 109, 110, 111, 112, 113, 114, 115, 116, 117, 118, 119, 120, 121, 122]⟩) (.int .u64 2)).run Tryd.prog W = .ok (.int .u8 ((hd 2).toNat : Int)) W by kernel_rfl
  | 3, _ => show (Instr.index 9 (.string ⟨#[48, 49, 50, 51, 52, 53, 54, 55, 56, 57, 97, 98, 99, 100, 101, 102, 103, 104, 105, 106, 107, 108, 109, 110, 111, 112, 113, 114, 115, 116, 117, 118, 119, 120, 121, 122]⟩) (.int .u64 3)).run Tryd.prog W = .ok (.int .u8 ((hd 3).toNat : Int)) W by kernel_rfl
  | 4, _ => show (Instr.index 9 (.string ⟨#[48, 49, 50, 51, 52, 53, 54, 55, 56, 57, 97, 98, 99, 100, 101, 102, 103, 104, 105, 106, 107, 108, 109, 110, 111, 112, 113, 114, 115, 116, 117, 118, 119, 120, 121, 122]⟩) (.int .u64 4)).run Tryd.prog W = .ok (.int .u8 ((hd 4).toNat : Int)) W by kernel_rfl
  | 5, _ => show (Instr.index 9 (.string ⟨#[48, 49, 50, 51, 52, 53, 54, 55, 56, 57, 97, 98, 99, 100, 101, 102, 103, 104, 105, 106, 107, 108, 109, 110, 111, 112, 113, 114, 115, 116, 117, 118, 119, 120, 121, 122]⟩) (.int .u64 5)).run Tryd.prog W = .ok (.int .u8 ((hd 5).toNat : Int)) W by kernel_rfl
  | 6, _ => show (Instr.index 9 (.string ⟨#[48, 49, 50, 51, 52, 53, 54, 55, 56, 57, 97, 98, 99, 100, 101, 102, 103, 104, 105, 106, 107, 108, 109, 110, 111, 112, 113, 114, 115, 116, 117, 118, 119, 120, 121, 122]⟩) (.int .u64 6)).run Tryd.prog W = .ok (.int .u8 ((hd 6).toNat : Int)) W by kernel_rfl
  | 7, _ => show (Instr.index 9 (.string ⟨#[48, 49, 50, 51, 52, 53, 54, 55, 56, 57, 97, 98, 99, 100, 101, 102, 103, 104, 105, 106, 107, 108, 109, 110, 111, 112, 113, 114, 115, 116, 117, 118, 119, 120, 121, 122]⟩) (.int .u64 7)).run Tryd.prog W = .ok (.int .u8 ((hd 7).toNat : Int)) W by kernel_rfl
  | 8, _ => show (Instr.index 9 (.string ⟨#[48, 49, 50, 51, 52, 53, 54, 55, 56, 57, 97, 98, 99, 100, 101, 102, 103, 104, 105, 106, 107, 108, 109, 110, 111, 112, 113, 114, 115, 116, 117, 118, 119, 120, 121, 122]⟩) (.int .u64 8)).run Tryd.prog W = .ok (.int .u8 ((hd 8).toNat : Int)) W by kernel_rfl
  | 9, _ => show (Instr.index 9 (.string ⟨#[48, 49, 50, 51, 52, 53, 54, 55, 56, 57, 97, 98, 99, 100, 101, 102, 103, 104, 105, 106, 107, 108, 109, 110, 111, 112, 113, 114, 115, 116, 117, 118, 119, 120, 121, 122]⟩) (.int .u64 9)).run Tryd.prog W = .ok (.int .u8 ((hd 9).toNat : Int)) W by kernel_rfl
  | 10, _ => show (Instr.index 9 (.string ⟨#[48, 49, 50, 51, 52, 53, 54, 55, 56, 57, 97, 98, 99, 100, 101, 102, 103, 104, 105, 106, 107, 108, 109, 110, 111, 112, 113, 114, 115, 116, 117, 118, 119, 120, 121, 122]⟩) (.int .u64 10)).run Tryd.prog W = .ok (.int .u8 ((hd 10).toNat : Int)) W by kernel_rfl
  | 11, _ => show (Instr.index 9 (.string ⟨#[48, 49, 50, 51, 52, 53, 54, 55, 56, 57, 97, 98, 99, 100, 101, 102, 103, 104, 105, 106, 107, 108, 109, 110, 111, 112, 113, 114, 115, 116, 117, 118, 119, 120, 121, 122]⟩) (.int .u64 11)).run Tryd.prog W = .ok (.int .u8 ((hd 11).toNat : Int)) W by kernel_rfl
  | 12, _ => show (Instr.index 9 (.string ⟨#[48, 49, 50, 51, 52, 53, 54, 55, 56, 57, 97, 98, 99, 100, 101, 102, 103, 104, 105, 106, 107, 108, 109, 110, 111, 112, 113, 114, 115, 116, 117, 118, 119, 120, 121, 122]⟩) (.int .u64 12)).run Tryd.prog W = .ok (.int .u8 ((hd 12).toNat : Int)) W by kernel_rfl
  | 13, _ => show (Instr.index 9 (.string ⟨#[48, 49, 50, 51, 52, 53, 54, 55, 56, 57, 97, 98, 99, 100, 101, 102, 103, 104, 105, 106, 107, 108, 109, 110, 111, 112, 113, 114, 115, 116, 117, 118, 119, 120, 121, 122]⟩) (.int .u64 13)).run Tryd.prog W = .ok (.int .u8 ((hd 13).toNat : Int)) W by kernel_rfl
  | 14, _ => show (Instr.index 9 (.string ⟨#[48, 49, 50, 51, 52, 53, 54, 55, 56, 57, 97, 98, 99, 100, 101, 102, 103, 104, 105, 106, 107, 108, 109, 110, 111, 112, 113, 114, 115, 116, 117, 118, 119, 120, 121, 122]⟩) (.int .u64 14)).run Tryd.prog W = .ok (.int .u8 ((hd 14).toNat : Int)) W by kernel_rfl
  | 15, _ => show (Instr.index 9 (.string ⟨#[48, 49, 50, 51, 52, 53, 54, 55, 56, 57, 97, 98, 99, 100, 101, 102, 103, 104, 105, 106, 107, 108, 109, 110, 111, 112, 113, 114, 115, 116, 117, 118, 119, 120, 121, 122]⟩) (.int .u64 15)).run Tryd.prog W = .ok (.int .u8 ((hd 15).toNat : Int)) W by kernel_rfl
  | n + 16, h => absurd h (by omega)
theorem and15 (v : Nat) (hv : v < 2 ^ 64) : bits .and .u64 (v : Int) 15 = ((v % 16 : Nat) : Int) := by
  have := bits_mask .u64 64 (by decide) (fun n h0 h1 => by rw [IntKind.wrap_u64]; omega) 4 (by decide) (v : Int) (by omega) (by omega)
  rw [show (2 ^ 4 - 1 : Int) = 15 by decide] at this
  rw [this]
  omega
/-- the table of the library's trailing noughts -/
def Tab2 (w : World) : Prop := Lib.TabIs Tryd.prog w "math/bits.deBruijn64tab" .u8 db64
theorem Tab2.below {w w' : World} (h : Tab2 w) (hb : Below w.heap.size w w') : Tab2 w' := Lib.tabBelow_of_tabIs h w' hb
theorem tab2_of_laid {w : World} (h : laidMet Tryd.prog laid3 w) : Tab2 w :=
  Lib.tabIs_of_head (rest := [("internal/strconv.uint64pow10", Rows.laid_internal_strconv_uint64pow10)]) (t := 97) (e := 5) (n := 64) (g := 4) (by kernel_rfl) (by kernel_rfl) Tryd.underlying97 Tryd.underlying5 (by kernel_rfl) (by kernel_rfl) h.tail
set_option maxHeartbeats 1000000 in
theorem tz16_any (w : World) (ht : Tab2 w) : Calls Tryd.prog 75 #[.int .u64 16] w fun e w' => e = .returned (.int .i64 4) ∧ w = w' := by
  have hc : w.cell? ⟨4, 15, none⟩ = some (.int .u8 4) := ht.cell (g := 4) (by kernel_rfl) 15 (by decide)
  have hidx : IntKind.u64.wrap (bits BinOp.and IntKind.u64 16 (IntKind.u64.wrap (-16)) * 285870213051353865) / 288230376151711744 = 15 := by kernel_rfl
  clear ht
  go_enter Tryd.func75, Tryd.ntmps75
  go_wp2_with fail
  go_ret
  exact ⟨rfl, rfl⟩
set_option maxHeartbeats 1000000 in
theorem tzs16_any (w : World) (ht : Tab2 w) : Calls Tryd.prog 71 #[.int .u64 16] w fun e w' => e = .returned (.int .i64 4) ∧ w = w' := by
  have C1 := Lib.hid (tz16_any w ht)
  clear ht
  go_enter Tryd.func71, Tryd.ntmps71
  go_wp2_with fail
  refine C1.out.mono ?_
  rintro e w1 ⟨rfl, rfl⟩
  go_wp2_with fail
  go_ret
  exact ⟨rfl, rfl⟩
theorem ispow_any (w : World) : Calls Tryd.prog 70 #[.int .i64 16] w fun e w' => e = .returned (.bool true) ∧ w = w' := by
  have h1 : bits BinOp.and IntKind.i64 16 15 = 0 := by kernel_rfl
  go_enter Tryd.func70, Tryd.ntmps70
  go_wp2_with fail
  go_ret
  exact ⟨rfl, rfl⟩
/-- the digits laid so far, from the end of an array of 65 -/
def row65 (m : Nat) (ds : List UInt8) : List Value := List.replicate m (.int .u8 0) ++ ds.map u8c
theorem row65_set (m : Nat) (d : UInt8) (ds : List UInt8) : (row65 (m + 1) ds).set m (u8c d) = row65 m (d :: ds) := by
  unfold row65
  rw [List.replicate_succ', List.append_assoc, List.set_append]
  simp
theorem row65_at (m : Nat) (ds : List UInt8) : (row65 (m + 1) ds)[m]? = some (.int .u8 0) := by
  unfold row65
  rw [List.getElem?_append_left (by simp)]
  simp
theorem row65_digit (m : Nat) (ds : List UInt8) (i : Nat) (h : i < ds.length) : (row65 m ds)[m + i]? = some (u8c ds[i]) := by
  unfold row65
  rw [List.getElem?_append_right (by simp)]
  simp [h]
theorem shr4 (v : Nat) : (v : Int) / 16 = ((v / 16 : Nat) : Int) := by omega
set_option maxRecDepth 100000 in
set_option maxHeartbeats 8000000 in
theorem fbits_any (u : Nat) (w : World) (hu : u < 2 ^ 64) (ht : Tab2 w) :
    Calls Tryd.prog 58 #[.slice none 0 0, .int .u64 (u : Int), .int .i64 16, .bool false, .bool false] w fun e w' => e = .returned (.tuple #[.slice none 0 0, .string ⟨(hexD u).toArray⟩]) ∧ Below w.heap.size w w' := by
  have C1 := Lib.hid ispow_any
  have C2 : Hid (∀ w2, Below w.heap.size w w2 → Calls Tryd.prog 71 #[.int .u64 16] w2 fun e w' => e = .returned (.int .i64 4) ∧ w2 = w') := Lib.hid (fun w2 hb => tzs16_any w2 (ht.below hb))
  clear ht
  go_enter Tryd.func58, Tryd.ntmps58
  go_wp2_with fail
  refine (C1.out _).mono ?_
  rintro e w1 ⟨rfl, rfl⟩
  go_wp2_with fail
  refine (C2.out _ (by repeat' (first | with_reducible exact Below.refl _ _ | with_reducible assumption | with_reducible refine bel_drew ?_ | with_reducible refine bel_alloc ?_ _ | with_reducible refine bel_set ?_ ?_ _ | with_reducible refine bel_call ?_ (by assumption) | (dsimp only; omega) | (simp; done) | (simp; omega)))).mono ?_
  rintro e w1 ⟨rfl, rfl⟩
  go_wp2_with fail
  go_loopg [1, 13] u (fun g s1 s13 wr => ∃ (m : Nat) (ds : List UInt8), g < 16 ^ (16 - ds.length) ∧ ds.length ≤ 15 ∧ m + 1 + ds.length = 65 ∧ s1 = .int .u64 (g : Int) ∧ s13 = .int .i64 ((m : Int) + 1) ∧ hexD u = hexD g ++ ds ∧ Below w.heap.size w wr ∧ Blk wr w.heap.size (row65 (m + 1) ds) 90)
  case atStart => exact ⟨64, [], hu, by decide, rfl, rfl, rfl, by simp, (by repeat' (first | with_reducible exact Below.refl _ _ | with_reducible assumption | with_reducible refine bel_drew ?_ | with_reducible refine bel_alloc ?_ _ | with_reducible refine bel_set ?_ ?_ _ | with_reducible refine bel_call ?_ (by assumption) | (dsimp only; omega) | (simp; done) | (simp; omega))), Blk.new (row65 65 []) _ rfl⟩
  case round =>
    obtain ⟨m, ds, hv, hd15, hm, rfl, rfl, hx, p, q⟩ := hrel
    have hv64 : gk < 2 ^ 64 := Nat.lt_of_lt_of_le hv (by rw [show (2 : Nat) ^ 64 = 16 ^ 16 by decide]; exact Nat.pow_le_pow_right (by decide) (by omega))
    have HX := Lib.hid hx
    have HM := Lib.hid hm
    have zc0 : wr.cell? ⟨w.heap.size, m, none⟩ = some (.int .u8 0) := by rw [q.cell, row65_at]
    have zf0 := q.free m
    have zl := q.lt
    have hm0 : (0 : Int) ≤ (m : Int) := by omega
    have hm1 : (m : Int) < 65 := by omega
    clear hx hm
    by_cases hlt : 16 ≤ gk
    · have hz : (16 : Int) ≤ (gk : Int) := by omega
      have h15 := and15 gk hv64
      have hdg := run_digit36 (gk % 16) (Nat.mod_lt _ (by decide))
      rw [show ((gk % 16 : Nat) : Int) = (gk : Int) % 16 by omega] at hdg h15
      go_wp2_with fail
      have q' : Blk (wr.setCell ⟨w.heap.size, m, none⟩ (u8c (hd (gk % 16)))) w.heap.size (row65 m (hd (gk % 16) :: ds)) 90 := q.set_eq (row65_set m _ ds)
      have p' := bel_set p (p := ⟨w.heap.size, m, none⟩) (Nat.le_refl _) (u8c (hd (gk % 16)))
      have hlen : gk / 16 < 16 ^ (16 - (ds.length + 1)) := by
        rw [show 16 - ds.length = (16 - (ds.length + 1)) + 1 by
          have : ds.length ≠ 15 := fun h => by rw [h] at hv; omega
          omega, Nat.pow_succ] at hv
        omega
      have hds : ds.length ≠ 15 := fun h => by rw [h] at hv; omega
      obtain ⟨m', rfl⟩ : ∃ m', m = m' + 1 := ⟨m - 1, by have := HM.out; omega⟩
      clear q p zc0 zf0 zl h15 hdg
      go_roundg (gk / 16)
      case measure => omega
      case rel => exact ⟨m', hd (gk % 16) :: ds, hlen, by simp; omega, by have := HM.out; simp; omega, (by first | rfl | simp), (by first | rfl | simp), by rw [HX.out, hexD_big (by omega)]; simp, p', q'⟩
    · have hz : ¬ (16 : Int) ≤ (gk : Int) := by omega
      have hdg := run_digit36 gk (by omega)
      have q' : Blk (wr.setCell ⟨w.heap.size, m, none⟩ (.int .u8 ((hd gk).toNat : Int))) w.heap.size (row65 m (hd gk :: ds)) 90 := q.set_eq (row65_set m _ ds)
      have p' := bel_set p (p := ⟨w.heap.size, m, none⟩) (Nat.le_refl _) (.int .u8 ((hd gk).toNat : Int))
      have hal : Tryd.prog.arrayLen 90 = 65 := by simp [Program.arrayLen, Tryd.underlying90]
      have hsl : ∀ W, (Instr.sliceAt 90 (.pointer (some ⟨w.heap.size, 0, none⟩)) (some (.int .i64 (m : Int))) none none).run Tryd.prog W = .ok (.slice (some ⟨w.heap.size, m, none⟩) (65 - m) (65 - m)) W := fun W => by
        rw [run_sliceAt_array_l W 90 ⟨w.heap.size, 0, none⟩ (by simp [Program.arrayLen, Program.elem, Tryd.underlying90]) .i64 (m : Int) (by omega) (by rw [hal]; omega)]
        have hne : ¬ (65 = m) := by omega
        go_simp
      have hl : (hd gk :: ds).length = 65 - m := by have := HM.out; simp; omega
      have hcv : (convert 61 9 (.slice (some ⟨w.heap.size, m, none⟩) (65 - m) (65 - m))).run Tryd.prog (wr.setCell ⟨w.heap.size, m, none⟩ (.int .u8 ((hd gk).toNat : Int))) = .ok (.string ⟨(hd gk :: ds).toArray⟩) (wr.setCell ⟨w.heap.size, m, none⟩ (.int .u8 ((hd gk).toNat : Int))) := by
        have h := run_convert_bytes_back (P := Tryd.prog) (wr.setCell ⟨w.heap.size, m, none⟩ (.int .u8 ((hd gk).toNat : Int))) 61 9 5 ⟨w.heap.size, m, none⟩ (65 - m) (hd gk :: ds) Tryd.underlying61 Tryd.underlying5 Tryd.underlying9 (fun j hj => by
          rw [Lib.add_plain, q'.cell, row65_digit m _ j hj]
          rfl)
        rw [hl] at h
        exact h
      have hfin : hexD u = hd gk :: ds := by rw [HX.out, hexD_small (by omega)]; rfl
      have HFin := Lib.hid hfin
      clear hfin hal hl q' q p
      go_wp2_with fail
      go_ret2
      exact ⟨by rw [HFin.out]; rfl, p'⟩
set_option maxHeartbeats 1000000 in
theorem ifu16_any (u : Nat) (w : World) (hu : u < 2 ^ 64) (ht : Tab2 w) :
    Calls Tryd.prog 42 #[.int .u64 (u : Int), .int .i64 16] w fun e w' => e = .returned (.string ⟨(hexD u).toArray⟩) ∧ Below w.heap.size w w' := by
  have C1 := Lib.hid (fbits_any u w hu ht)
  clear hu ht
  go_enter Tryd.func42, Tryd.ntmps42
  go_wp2_with fail
  refine C1.out.mono ?_
  rintro e w1 ⟨rfl, hb⟩
  go_wp2_with fail
  go_ret
  exact ⟨rfl, hb⟩
set_option maxHeartbeats 400000 in
theorem fu16_any (u : Nat) (w : World) (hu : u < 2 ^ 64) (ht : Tab2 w) :
    Calls Tryd.prog 34 #[.int .u64 (u : Int), .int .i64 16] w fun e w' => e = .returned (.string ⟨(hexD u).toArray⟩) ∧ Below w.heap.size w w' := by
  have C1 := Lib.hid (ifu16_any u w hu ht)
  clear hu ht
  go_enter Tryd.func34, Tryd.ntmps34
  go_wp2_with fail
  refine C1.out.mono ?_
  rintro e w1 ⟨rfl, hb⟩
  go_wp2_with fail
  go_ret
  exact ⟨rfl, hb⟩
end Go.Proofs.YtelofaceadlfmaaDoor
