/- WALKS: Text of every kind; AggTexts. -/
import Derived.Test.YtelofaceadlfmaaDoorFmtB
import Derived.Test.YtelofaceadlfmaaDoorAggS
namespace Go.Proofs.YtelofaceadlfmaaDoor
open Go.RowKit Fl
theorem hexD_len : ∀ (n u : Nat), u < 16 ^ (n + 1) → (hexD u).length ≤ n + 1
  | 0, u, h => by rw [hexD_small (by omega)]; exact Nat.le_refl _
  | n + 1, u, h => by
    by_cases hs : u < 16
    · rw [hexD_small hs]; simp
    · rw [hexD_big hs, List.length_append, List.length_singleton]
      have := hexD_len n (u / 16) (by rw [Nat.pow_succ] at h; omega)
      omega
/-- sixteen digits -/
def hex16 (b : Nat) : List UInt8 := Lib.repeatL [48] (16 - (hexD b).length) ++ hexD b
def txt (k : Int) (v : V) : List UInt8 :=
  if known k = false then [] else if (fit k v).has = false then [45] else if k = 1 then Lib.decDigits (fit k v).bits else if k = 2 then Lib.itoa (wrap64 ((fit k v).bits : Int)) else hex16 (fit k v).bits
set_option maxRecDepth 100000 in
set_option maxHeartbeats 4000000 in
theorem text_any (k : Int) (v : V) (w : World) (hv : v.ok) (ht : Tab w) (ht2 : Tab2 w) :
    Calls Tryd.prog 18 #[.int .i64 k, .agg #[.bool v.has, .int .u64 v.bits]] w fun e w' => e = .returned (.string ⟨(txt k v).toArray⟩) ∧ Below w.heap.size w w' := by
  have C1 := Lib.hid (fun w => known_any k w)
  have C2 := Lib.hid (fun w => fit_any k v w hv)
  have hfo : (fit k v).bits < 2 ^ 64 := fit_ok hv
  unfold txt
  have hkn := known_iff k
  cases hk : known k with
  | false =>
    rw [hk] at C1
    rw [if_pos rfl]
    clear ht ht2 C2 hv hfo hkn hk
    obtain ⟨vh, vb⟩ := v
    go_enter Tryd.func18, Tryd.ntmps18
    go_wp2_with fail
    refine (C1.out _).mono ?_
    rintro e w1 ⟨rfl, rfl⟩
    go_wp2_with fail
    go_ret
    exact ⟨rfl, (by repeat' (first | with_reducible exact Below.refl _ _ | with_reducible assumption | with_reducible refine bel_drew ?_ | with_reducible refine bel_alloc ?_ _ | with_reducible refine bel_set ?_ ?_ _ | with_reducible refine bel_call ?_ (by assumption) | (dsimp only; omega) | (simp; done) | (simp; omega)))⟩
  | true =>
    rw [hk] at C1 hkn
    rw [if_neg (by decide)]
    generalize fit k v = f at *
    obtain ⟨vh, vb⟩ := v
    obtain ⟨fh, fb⟩ := f
    dsimp only at *
    cases fh with
    | false =>
      rw [if_pos rfl]
      clear ht ht2 hv hfo hkn hk
      go_enter Tryd.func18, Tryd.ntmps18
      go_wp2_with fail
      refine (C1.out _).mono ?_
      rintro e w1 ⟨rfl, rfl⟩
      go_wp2_with fail
      refine (C2.out _).mono ?_
      rintro e w1 ⟨rfl, hb⟩
      have p1 : Below w.heap.size w w1 := (by repeat' (first | with_reducible exact Below.refl _ _ | with_reducible assumption | with_reducible refine bel_drew ?_ | with_reducible refine bel_alloc ?_ _ | with_reducible refine bel_set ?_ ?_ _ | with_reducible refine bel_call ?_ (by assumption) | (dsimp only; omega) | (simp; done) | (simp; omega)))
      have q1 : Blk w1 w.heap.size [.bool vh, .int .u64 (vb : Int)] 27 := Blk.below (by repeat' (first | with_reducible assumption | (show (_ : List Value) = _; rfl) | with_reducible exact Blk.new _ _ rfl | (with_reducible refine Blk.new _ _ ?_; simp; done) | with_reducible apply Blk.set_eq | with_reducible apply Blk.other | with_reducible apply Blk.alloc | with_reducible apply Blk.drew | (simp; done) | (simp; omega))) hb
      clear hb
      have q1c0 : w1.cell? ⟨w.heap.size, 0, none⟩ = some (.bool vh) := q1.cell 0; have q1c1 : w1.cell? ⟨w.heap.size, 1, none⟩ = some (.int .u64 (vb : Int)) := q1.cell 1; have q1z := q1.lt
      have f0 := q1.free 0
      have f1 := q1.free 1
      go_wp2_with fail
      go_ret
      exact ⟨rfl, (by repeat' (first | with_reducible exact Below.refl _ _ | with_reducible assumption | with_reducible refine bel_drew ?_ | with_reducible refine bel_alloc ?_ _ | with_reducible refine bel_set ?_ ?_ _ | with_reducible refine bel_call ?_ (by assumption) | (dsimp only; omega) | (simp; done) | (simp; omega)))⟩
    | true =>
      rw [if_neg (by decide)]
      by_cases h1 : k = 1
      · subst h1
        rw [if_pos rfl]
        have C3 : Hid (∀ w2, Below w.heap.size w w2 → Calls Tryd.prog 34 #[.int .u64 (fb : Int), .int .i64 10] w2 fun e w' => e = .returned (.string ⟨(Lib.decDigits fb).toArray⟩) ∧ Below w2.heap.size w2 w') := Lib.hid (fun w2 hb => fu10_any fb w2 hfo (ht.below hb))
        generalize Lib.decDigits fb = ds at *
        clear ht ht2 hv hfo hkn hk
        go_enter Tryd.func18, Tryd.ntmps18
        go_wp2_with fail
        refine (C1.out _).mono ?_
        rintro e w1 ⟨rfl, rfl⟩
        go_wp2_with fail
        refine (C2.out _).mono ?_
        rintro e w1 ⟨rfl, hb⟩
        have p1 : Below w.heap.size w w1 := (by repeat' (first | with_reducible exact Below.refl _ _ | with_reducible assumption | with_reducible refine bel_drew ?_ | with_reducible refine bel_alloc ?_ _ | with_reducible refine bel_set ?_ ?_ _ | with_reducible refine bel_call ?_ (by assumption) | (dsimp only; omega) | (simp; done) | (simp; omega)))
        have q1 : Blk w1 w.heap.size [.bool vh, .int .u64 (vb : Int)] 27 := Blk.below (by repeat' (first | with_reducible assumption | (show (_ : List Value) = _; rfl) | with_reducible exact Blk.new _ _ rfl | (with_reducible refine Blk.new _ _ ?_; simp; done) | with_reducible apply Blk.set_eq | with_reducible apply Blk.other | with_reducible apply Blk.alloc | with_reducible apply Blk.drew | (simp; done) | (simp; omega))) hb
        clear hb
        have q1c0 : w1.cell? ⟨w.heap.size, 0, none⟩ = some (.bool vh) := q1.cell 0; have q1c1 : w1.cell? ⟨w.heap.size, 1, none⟩ = some (.int .u64 (vb : Int)) := q1.cell 1; have q1z := q1.lt
        have f0 := q1.free 0
        have f1 := q1.free 1
        go_wp2_with fail
        refine (C3.out _ (by repeat' (first | with_reducible exact Below.refl _ _ | with_reducible assumption | with_reducible refine bel_drew ?_ | with_reducible refine bel_alloc ?_ _ | with_reducible refine bel_set ?_ ?_ _ | with_reducible refine bel_call ?_ (by assumption) | (dsimp only; omega) | (simp; done) | (simp; omega)))).mono ?_
        rintro e w2 ⟨rfl, hb⟩
        have p2 : Below w.heap.size w w2 := (by repeat' (first | with_reducible exact Below.refl _ _ | with_reducible assumption | with_reducible refine bel_drew ?_ | with_reducible refine bel_alloc ?_ _ | with_reducible refine bel_set ?_ ?_ _ | with_reducible refine bel_call ?_ (by assumption) | (dsimp only; omega) | (simp; done) | (simp; omega)))
        clear hb
        go_wp2_with fail
        go_ret
        exact ⟨rfl, p2⟩
      by_cases h2 : k = 2
      · subst h2
        rw [if_neg (show ¬ (2 : Int) = 1 by decide), if_pos rfl]
        have C3 : Hid (∀ w2, Below w.heap.size w w2 → Calls Tryd.prog 35 #[.int .i64 (wrap64 (fb : Int)), .int .i64 10] w2 fun e w' => e = .returned (.string ⟨(Lib.itoa (wrap64 (fb : Int))).toArray⟩) ∧ Below w2.heap.size w2 w') :=
          Lib.hid (fun w2 hb2 => (Tryd.strconv_FormatInt_10 _ (i64_bounds fb).1 (i64_bounds fb).2 w2 (ht.below hb2)).mono fun e w' ⟨he, k, os, hw⟩ => ⟨he, by rw [hw]; exact below_grow _ _ _⟩)
        generalize Lib.itoa (wrap64 (fb : Int)) = ds at *
        clear ht ht2 hv hfo hkn hk h1
        go_enter Tryd.func18, Tryd.ntmps18
        go_wp2_with fail
        refine (C1.out _).mono ?_
        rintro e w1 ⟨rfl, rfl⟩
        go_wp2_with fail
        refine (C2.out _).mono ?_
        rintro e w1 ⟨rfl, hb⟩
        have p1 : Below w.heap.size w w1 := (by repeat' (first | with_reducible exact Below.refl _ _ | with_reducible assumption | with_reducible refine bel_drew ?_ | with_reducible refine bel_alloc ?_ _ | with_reducible refine bel_set ?_ ?_ _ | with_reducible refine bel_call ?_ (by assumption) | (dsimp only; omega) | (simp; done) | (simp; omega)))
        have q1 : Blk w1 w.heap.size [.bool vh, .int .u64 (vb : Int)] 27 := Blk.below (by repeat' (first | with_reducible assumption | (show (_ : List Value) = _; rfl) | with_reducible exact Blk.new _ _ rfl | (with_reducible refine Blk.new _ _ ?_; simp; done) | with_reducible apply Blk.set_eq | with_reducible apply Blk.other | with_reducible apply Blk.alloc | with_reducible apply Blk.drew | (simp; done) | (simp; omega))) hb
        clear hb
        have q1c0 : w1.cell? ⟨w.heap.size, 0, none⟩ = some (.bool vh) := q1.cell 0; have q1c1 : w1.cell? ⟨w.heap.size, 1, none⟩ = some (.int .u64 (vb : Int)) := q1.cell 1; have q1z := q1.lt
        have f0 := q1.free 0
        have f1 := q1.free 1
        go_wp2_with fail
        refine (C3.out _ (by repeat' (first | with_reducible exact Below.refl _ _ | with_reducible assumption | with_reducible refine bel_drew ?_ | with_reducible refine bel_alloc ?_ _ | with_reducible refine bel_set ?_ ?_ _ | with_reducible refine bel_call ?_ (by assumption) | (dsimp only; omega) | (simp; done) | (simp; omega)))).mono ?_
        rintro e w2 ⟨rfl, hb⟩
        have p2 : Below w.heap.size w w2 := (by repeat' (first | with_reducible exact Below.refl _ _ | with_reducible assumption | with_reducible refine bel_drew ?_ | with_reducible refine bel_alloc ?_ _ | with_reducible refine bel_set ?_ ?_ _ | with_reducible refine bel_call ?_ (by assumption) | (dsimp only; omega) | (simp; done) | (simp; omega)))
        clear hb
        go_wp2_with fail
        go_ret
        exact ⟨rfl, p2⟩
      · rw [if_neg h1, if_neg h2]
        unfold hex16
        have hl16 := hexD_len 15 fb hfo
        have C3 : Hid (∀ w2, Below w.heap.size w w2 → Calls Tryd.prog 34 #[.int .u64 (fb : Int), .int .i64 16] w2 fun e w' => e = .returned (.string ⟨(hexD fb).toArray⟩) ∧ Below w2.heap.size w2 w') := Lib.hid (fun w2 hb => fu16_any fb w2 hfo (ht2.below hb))
        generalize hexD fb = ds at *
        obtain ⟨c, hc⟩ : ∃ c, 16 - ds.length = c := ⟨_, rfl⟩
        rw [hc]
        have C4 := Lib.hid (fun w => Tryd.strings_Repeat ⟨#[48]⟩ c w (by omega) (by show 1 * c ≤ _; omega))
        have hcc : (16 : Int) - (ds.length : Int) = (c : Int) := by omega
        have e1 : (k == 1) = false := beq_eq_false_iff_ne.2 h1
        have e2 : (k == 2) = false := beq_eq_false_iff_ne.2 h2
        have hsum : ¬ 9223372036854775807 < (Lib.repeatL [48] c).length + ds.length := by rw [Lib.repeatL_length]; simp; omega
        clear ht ht2 hv hfo hkn hk h1 h2 hc
        go_enter Tryd.func18, Tryd.ntmps18
        go_wp2_with fail
        refine (C1.out _).mono ?_
        rintro e w1 ⟨rfl, rfl⟩
        go_wp2_with fail
        refine (C2.out _).mono ?_
        rintro e w1 ⟨rfl, hb⟩
        have p1 : Below w.heap.size w w1 := (by repeat' (first | with_reducible exact Below.refl _ _ | with_reducible assumption | with_reducible refine bel_drew ?_ | with_reducible refine bel_alloc ?_ _ | with_reducible refine bel_set ?_ ?_ _ | with_reducible refine bel_call ?_ (by assumption) | (dsimp only; omega) | (simp; done) | (simp; omega)))
        have q1 : Blk w1 w.heap.size [.bool vh, .int .u64 (vb : Int)] 27 := Blk.below (by repeat' (first | with_reducible assumption | (show (_ : List Value) = _; rfl) | with_reducible exact Blk.new _ _ rfl | (with_reducible refine Blk.new _ _ ?_; simp; done) | with_reducible apply Blk.set_eq | with_reducible apply Blk.other | with_reducible apply Blk.alloc | with_reducible apply Blk.drew | (simp; done) | (simp; omega))) hb
        clear hb
        have q1c0 : w1.cell? ⟨w.heap.size, 0, none⟩ = some (.bool vh) := q1.cell 0; have q1c1 : w1.cell? ⟨w.heap.size, 1, none⟩ = some (.int .u64 (vb : Int)) := q1.cell 1; have q1z := q1.lt
        have f0 := q1.free 0
        have f1 := q1.free 1
        go_wp2_with fail
        refine (C3.out _ (by repeat' (first | with_reducible exact Below.refl _ _ | with_reducible assumption | with_reducible refine bel_drew ?_ | with_reducible refine bel_alloc ?_ _ | with_reducible refine bel_set ?_ ?_ _ | with_reducible refine bel_call ?_ (by assumption) | (dsimp only; omega) | (simp; done) | (simp; omega)))).mono ?_
        rintro e w2 ⟨rfl, hb⟩
        have p2 : Below w.heap.size w w2 := (by repeat' (first | with_reducible exact Below.refl _ _ | with_reducible assumption | with_reducible refine bel_drew ?_ | with_reducible refine bel_alloc ?_ _ | with_reducible refine bel_set ?_ ?_ _ | with_reducible refine bel_call ?_ (by assumption) | (dsimp only; omega) | (simp; done) | (simp; omega)))
        clear hb p1 q1 q1c0 q1c1 q1z f0 f1
        go_wp2_with fail
        refine (C4.out _).mono ?_
        rintro e w3 ⟨rfl, hb⟩
        have p3 : Below w.heap.size w w3 := (by repeat' (first | with_reducible exact Below.refl _ _ | with_reducible assumption | with_reducible refine bel_drew ?_ | with_reducible refine bel_alloc ?_ _ | with_reducible refine bel_set ?_ ?_ _ | with_reducible refine bel_call ?_ (by assumption) | (dsimp only; omega) | (simp; done) | (simp; omega)))
        clear hb
        go_wp2_with fail
        go_ret
        exact ⟨by simp [ByteArray.mk_append_mk], p3⟩
theorem run_piece10 (d : Nat) (h : d < 10) (W : World) : (Instr.slice 9 (.string ⟨#[48, 49, 50, 51, 52, 53, 54, 55, 56, 57]⟩) (some (.int .u64 (d : Int))) (some (.int .u64 ((d : Int) + 1))) none).run Tryd.prog W = .ok (.string ⟨#[UInt8.ofNat (48 + d)]⟩) W :=
  match d, h with
  | 0, _ => show (Instr.slice 9 (.string ⟨#[48, 49, 50, 51, 52, 53, 54, 55, 56, 57]⟩) (some (.int .u64 0)) (some (.int .u64 1)) none).run Tryd.prog W = .ok (.string ⟨#[UInt8.ofNat (48 + 0)]⟩) W by kernel_rfl
  | 1, _ => show (Instr.slice 9 (.string ⟨#[48, 49, 50, 51, 52, 53, 54, 55, 56, 57]⟩) (some (.int .u64 1)) (some (.int .u64 2)) none).run Tryd.prog W = .ok (.string ⟨#[UInt8.ofNat (48 + 1)]⟩) W by kernel_rfl
  | 2, _ => show (Instr.slice 9 (.string ⟨#[48, 49, 50, 51, 52, 53, 54, 55, 56, 57]⟩) (some (.int .u64 2)) (some (.int .u64 3)) none).run Tryd.prog W = .ok (.string ⟨#[UInt8.ofNat (48 + 2)]⟩) W by kernel_rfl
  | 3, _ => show (Instr.slice 9 (.string ⟨#[48, 49, 50, 51, 52, 53, 54, 55, 56, 57]⟩) (some (.int .u64 3)) (some (.int .u64 4)) none).run Tryd.prog W = .ok (.string ⟨#[UInt8.ofNat (48 + 3)]⟩) W by kernel_rfl
  | 4, _ => show (Instr.slice 9 (.string ⟨#[48, 49, 50, 51, 52, 53, 54, 55, 56, 57]⟩) (some (.int .u64 4)) (some (.int .u64 5)) none).run Tryd.prog W = .ok (.string ⟨#[UInt8.ofNat (48 + 4)]⟩) W by kernel_rfl
  | 5, _ => show (Instr.slice 9 (.string ⟨#[48, 49, 50, 51, 52, 53, 54, 55, 56, 57]⟩) (some (.int .u64 5)) (some (.int .u64 6)) none).run Tryd.prog W = .ok (.string ⟨#[UInt8.ofNat (48 + 5)]⟩) W by kernel_rfl
  | 6, _ => show (Instr.slice 9 (.string ⟨#[48, 49, 50, 51, 52, 53, 54, 55, 56, 57]⟩) (some (.int .u64 6)) (some (.int .u64 7)) none).run Tryd.prog W = .ok (.string ⟨#[UInt8.ofNat (48 + 6)]⟩) W by kernel_rfl
  | 7, _ => show (Instr.slice 9 (.string ⟨#[48, 49, 50, 51, 52, 53, 54, 55, 56, 57]⟩) (some (.int .u64 7)) (some (.int .u64 8)) none).run Tryd.prog W = .ok (.string ⟨#[UInt8.ofNat (48 + 7)]⟩) W by kernel_rfl
  | 8, _ => show (Instr.slice 9 (.string ⟨#[48, 49, 50, 51, 52, 53, 54, 55, 56, 57]⟩) (some (.int .u64 8)) (some (.int .u64 9)) none).run Tryd.prog W = .ok (.string ⟨#[UInt8.ofNat (48 + 8)]⟩) W by kernel_rfl
  | 9, _ => show (Instr.slice 9 (.string ⟨#[48, 49, 50, 51, 52, 53, 54, 55, 56, 57]⟩) (some (.int .u64 9)) (some (.int .u64 10)) none).run Tryd.prog W = .ok (.string ⟨#[UInt8.ofNat (48 + 9)]⟩) W by kernel_rfl
  | n + 10, h => absurd h (by omega)
theorem run_piece16 (d : Nat) (h : d < 16) (W : World) : (Instr.slice 9 (.string ⟨#[48, 49, 50, 51, 52, 53, 54, 55, 56, 57, 97, 98, 99, 100, 101, 102]⟩) (some (.int .u64 (d : Int))) (some (.int .u64 ((d : Int) + 1))) none).run Tryd.prog W = .ok (.string ⟨#[hd d]⟩) W :=
  match d, h with
  | 0, _ => show (Instr.slice 9 (.string ⟨#[48, 49, 50, 51, 52, 53, 54, 55, 56, 57, 97, 98, 99, 100, 101, 102]⟩) (some (.int .u64 0)) (some (.int .u64 1)) none).run Tryd.prog W = .ok (.string ⟨#[hd 0]⟩) W by kernel_rfl
  | 1, _ => show (Instr.slice 9 (.string ⟨#[48, 49, 50, 51, 52, 53, 54, 55, 56, 57, 97, 98, 99, 100, 101, 102]⟩) (some (.int .u64 1)) (some (.int .u64 2)) none).run Tryd.prog W = .ok (.string ⟨#[hd 1]⟩) W by kernel_rfl
  | 2, _ => show (Instr.slice 9 (.string ⟨#[48, 49, 50, 51, 52, 53, 54, 55, 56, 57, 97, 98, 99, 100, 101, 102]⟩) (some (.int .u64 2)) (some (.int .u64 3)) none).run Tryd.prog W = .ok (.string ⟨#[hd 2]⟩) W by kernel_rfl
  | 3, _ => show (Instr.slice 9 (.string ⟨#[48, 49, 50, 51, 52, 53, 54, 55, 56, 57, 97, 98, 99, 100, 101, 102]⟩) (some (.int .u64 3)) (some (.int .u64 4)) none).run Tryd.prog W = .ok (.string ⟨#[hd 3]⟩) W by kernel_rfl
  | 4, _ => show (Instr.slice 9 (.string ⟨#[48, 49, 50, 51, 52, 53, 54, 55, 56, 57, 97, 98, 99, 100, 101, 102]⟩) (some (.int .u64 4)) (some (.int .u64 5)) none).run Tryd.prog W = .ok (.string ⟨#[hd 4]⟩) W by kernel_rfl
  | 5, _ => show (Instr.slice 9 (.string ⟨#[48, 49, 50, 51, 52, 53, 54, 55, 56, 57, 97, 98, 99, 100, 101, 102]⟩) (some (.int .u64 5)) (some (.int .u64 6)) none).run Tryd.prog W = .ok (.string ⟨#[hd 5]⟩) W by kernel_rfl
  | 6, _ => show (Instr.slice 9 (.string ⟨#[48, 49, 50, 51, 52, 53, 54, 55, 56, 57, 97, 98, 99, 100, 101, 102]⟩) (some (.int .u64 6)) (some (.int .u64 7)) none).run Tryd.prog W = .ok (.string ⟨#[hd 6]⟩) W by kernel_rfl
  | 7, _ => show (Instr.slice 9 (.string ⟨#[48, 49, 50, 51, 52, 53, 54, 55, 56, 57, 97, 98, 99, 100, 101, 102]⟩) (some (.int .u64 7)) (some (.int .u64 8)) none).run Tryd.prog W = .ok (.string ⟨#[hd 7]⟩) W by kernel_rfl
  | 8, _ => show (Instr.slice 9 (.string ⟨#[48, 49, 50, 51, 52, 53, 54, 55, 56, 57, 97, 98, 99, 100, 101, 102]⟩) (some (.int .u64 8)) (some (.int .u64 9)) none).run Tryd.prog W = .ok (.string ⟨#[hd 8]⟩) W by kernel_rfl
  | 9, _ => show (Instr.slice 9 (.string ⟨#[48, 49, 50, 51, 52, 53, 54, 55, 56, 57, 97, 98, 99, 100, 101, 102]⟩) (some (.int .u64 9)) (some (.int .u64 10)) none).run Tryd.prog W = .ok (.string ⟨#[hd 9]⟩) W by kernel_rfl
  | 10, _ => show (Instr.slice 9 (.string ⟨#[48, 49, 50, 51, 52, 53, 54, 55, 56, 57, 97, 98, 99, 100, 101, 102]⟩) (some (.int .u64 10)) (some (.int .u64 11)) none).run Tryd.prog W = .ok (.string ⟨#[hd 10]⟩) W by kernel_rfl
  | 11, _ => show (Instr.slice 9 (.string ⟨#[48, 49, 50, 51, 52, 53, 54, 55, 56, 57, 97, 98, 99, 100, 101, 102]⟩) (some (.int .u64 11)) (some (.int .u64 12)) none).run Tryd.prog W = .ok (.string ⟨#[hd 11]⟩) W by kernel_rfl
  | 12, _ => show (Instr.slice 9 (.string ⟨#[48, 49, 50, 51, 52, 53, 54, 55, 56, 57, 97, 98, 99, 100, 101, 102]⟩) (some (.int .u64 12)) (some (.int .u64 13)) none).run Tryd.prog W = .ok (.string ⟨#[hd 12]⟩) W by kernel_rfl
  | 13, _ => show (Instr.slice 9 (.string ⟨#[48, 49, 50, 51, 52, 53, 54, 55, 56, 57, 97, 98, 99, 100, 101, 102]⟩) (some (.int .u64 13)) (some (.int .u64 14)) none).run Tryd.prog W = .ok (.string ⟨#[hd 13]⟩) W by kernel_rfl
  | 14, _ => show (Instr.slice 9 (.string ⟨#[48, 49, 50, 51, 52, 53, 54, 55, 56, 57, 97, 98, 99, 100, 101, 102]⟩) (some (.int .u64 14)) (some (.int .u64 15)) none).run Tryd.prog W = .ok (.string ⟨#[hd 14]⟩) W by kernel_rfl
  | 15, _ => show (Instr.slice 9 (.string ⟨#[48, 49, 50, 51, 52, 53, 54, 55, 56, 57, 97, 98, 99, 100, 101, 102]⟩) (some (.int .u64 15)) (some (.int .u64 16)) none).run Tryd.prog W = .ok (.string ⟨#[hd 15]⟩) W by kernel_rfl
  | n + 16, h => absurd h (by omega)
theorem decDigits_small {u : Nat} (h : u < 10) : Lib.decDigits u = [UInt8.ofNat (48 + u)] := by rw [Lib.decDigits, dif_pos h]
theorem decDigits_big {u : Nat} (h : ¬ u < 10) : Lib.decDigits u = Lib.decDigits (u / 10) ++ [UInt8.ofNat (48 + u % 10)] := by rw [Lib.decDigits, dif_neg h]
theorem cons_bytes (a : UInt8) (b : List UInt8) : (⟨#[a]⟩ : ByteArray) ++ ⟨b.toArray⟩ = ⟨(a :: b).toArray⟩ := by
  rw [ByteArray.mk_append_mk]
  simp
set_option maxRecDepth 100000 in
set_option maxHeartbeats 4000000 in
theorem rdec_any (u : Nat) (w : World) (hu : u < 2 ^ 64) :
    Calls Tryd.prog 37 #[.int .u64 (u : Int)] w fun e w' => e = .returned (.string ⟨(Lib.decDigits u).toArray⟩) ∧ w = w' := by
  have HU := Lib.hid hu
  clear hu
  go_enter Tryd.func37, Tryd.ntmps37
  go_wp2_with fail
  go_loopg [0, 4] u (fun g s0 s4 wr => ∃ (ds : List UInt8), g ≤ u ∧ g < 10 ^ (20 - ds.length) ∧ ds.length ≤ 19 ∧ s0 = .int .u64 (g : Int) ∧ s4 = .string ⟨ds.toArray⟩ ∧ Lib.decDigits u = Lib.decDigits g ++ ds ∧ w = wr)
  case atStart => exact ⟨[], Nat.le_refl _, by have := HU.out; simp; omega, by decide, rfl, rfl, by simp, rfl⟩
  case round =>
    obtain ⟨ds, hgu, hv, hl, rfl, rfl, hx, rfl⟩ := hrel
    have hv64 : (gk : Int) ≤ 18446744073709551615 := by have := HU.out; omega
    have HX := Lib.hid hx
    have hsum : ¬ 9223372036854775807 < 1 + ds.length := by omega
    clear hx
    by_cases hlt : 10 ≤ gk
    · have hz : (10 : Int) ≤ (gk : Int) := by omega
      have hp := run_piece10 (gk % 10) (Nat.mod_lt _ (by decide))
      rw [show ((gk % 10 : Nat) : Int) = (gk : Int) % 10 by omega] at hp
      have hD := decDigits_big (u := gk) (by omega)
      generalize UInt8.ofNat (48 + gk % 10) = x at *
      have HD := Lib.hid hD
      have hlen : gk / 10 < 10 ^ (20 - (ds.length + 1)) := by
        have : ds.length ≠ 19 := fun h => by rw [h] at hv; omega
        rw [show 20 - ds.length = (20 - (ds.length + 1)) + 1 by omega, Nat.pow_succ] at hv
        omega
      have hds : ds.length ≠ 19 := fun h => by rw [h] at hv; omega
      clear hD
      go_wp2_with fail
      go_roundg (gk / 10)
      case measure => omega
      case rel => exact ⟨x :: ds, by omega, hlen, by simp; omega, (by first | rfl | simp), by rw [cons_bytes], by rw [HX.out, HD.out]; simp, rfl⟩
    · have hz : ¬ (10 : Int) ≤ (gk : Int) := by omega
      have hp := run_piece10 gk (by omega)
      have hD := decDigits_small (u := gk) (by omega)
      generalize UInt8.ofNat (48 + gk) = x at *
      have HD := Lib.hid hD
      clear hD
      go_wp2_with fail
      go_ret
      exact ⟨by rw [HX.out, HD.out, cons_bytes]; rfl, rfl⟩
end Go.Proofs.YtelofaceadlfmaaDoor
