/- WALK of OpsRun. -/
import Derived.Test.YtgcbjpdmnlanoaaOpsL
import Derived.Test.YtgcbjpdmnlanoaaOpenOp
namespace Go.Proofs.Ytgcbjpdmnlanoaa
open Go.RowKit
open Fl (nan key canon)
theorem Rcs.cells {w w' : World} {b o len : Nat} {f : Nat → Rc} (h : Rcs w b o len f) {i : Nat} (hi : i < len) (p : Below w.heap.size w w') :
    b < w'.heap.size ∧ w'.cell? ⟨b, o + i * 2, none⟩ = some (.int .u64 (f i).key) ∧ w'.cell? ⟨b, o + i * 2 + 1, none⟩ = some (.float .f64 (f i).val) :=
  ⟨Nat.lt_of_lt_of_le h.lt p.size, (p.cell (p := ⟨b, o + (i * 2 + 0), none⟩) h.lt).trans (h.c0 i hi), (p.cell (p := ⟨b, o + (i * 2 + 1), none⟩) h.lt).trans (h.c1 i hi)⟩
theorem Stps.cells {w w' : World} {b o len : Nat} {f : Nat → Stp} (h : Stps w b o len f) {i : Nat} (hi : i < len) (p : Below w.heap.size w w') :
    b < w'.heap.size ∧ w'.cell? ⟨b, o + i * 3, none⟩ = some (.int .i64 (f i).kind) ∧ w'.cell? ⟨b, o + i * 3 + 1, none⟩ = some (.int .i64 (f i).n) ∧ w'.cell? ⟨b, o + i * 3 + 2, none⟩ = some (.float .f64 (f i).x) :=
  ⟨Nat.lt_of_lt_of_le h.lt p.size, (p.cell (p := ⟨b, o + (i * 3 + 0), none⟩) h.lt).trans (h.c0 i hi), (p.cell (p := ⟨b, o + (i * 3 + 1), none⟩) h.lt).trans (h.c1 i hi), (p.cell (p := ⟨b, o + (i * 3 + 2), none⟩) h.lt).trans (h.c2 i hi)⟩
set_option maxRecDepth 100000 in
set_option maxHeartbeats 4000000 in
theorem lrun_any (a : Option Addr) (len cap rb ro : Nat) (f : Nat → Stp) (a2 : Option Addr) (len2 cap2 rb2 ro2 : Nat) (f2 : Nat → Rc) (w : World) (hln : len ≤ 9223372036854775807) (ha : 0 < len → a = some ⟨rb, ro, none⟩) (hr : 0 < len → Stps w rb ro len f)
    (hln2 : len2 ≤ 9223372036854775807) (ha2 : 0 < len2 → a2 = some ⟨rb2, ro2, none⟩) (hr2 : 0 < len2 → Rcs w rb2 ro2 len2 f2) :
    Calls Try.prog 4 #[.slice a len cap, .slice a2 len2 cap2] w fun e w' => e = .returned (.bool true) ∧ Below w.heap.size w w' := by
  have HR := Lib.hid hr
  have C0 := Lib.hid oawake_any
  have HC : Hid (∀ (r : Rc), r.ok →
      (∀ w2, Below w.heap.size w w2 → Calls Try.prog 14 #[.slice a len cap, .agg #[.int .u64 r.key, .float .f64 r.val]] w2 fun e w' => e = .returned (.tuple #[.agg #[.int .u64 (runOps f len r).1.key, .float .f64 (runOps f len r).1.val], .int .i64 (runOps f len r).2]) ∧ Below w2.heap.size w2 w') ∧
      (∀ w2, Below w.heap.size w w2 → Calls Try.prog 15 #[.slice a len cap, .agg #[.int .u64 r.key, .float .f64 r.val]] w2 fun e w' => e = .returned (.tuple #[.agg #[.int .u64 (runOps f len r).1.key, .float .f64 (runOps f len r).1.val], .int .i64 (runOps f len r).2]) ∧ Below w2.heap.size w2 w') ∧
      (∀ w2, Below w.heap.size w w2 → Calls Try.prog 16 #[.slice a len cap, .agg #[.int .u64 r.key, .float .f64 r.val]] w2 fun e w' => e = .returned (.tuple #[.int .u64 (runOps f len r).1.key, .bool ((runOps f len r).2 == 1)]) ∧ Below w2.heap.size w2 w') ∧
      (∀ w2, Below w.heap.size w w2 → Calls Try.prog 17 #[.slice a len cap, .agg #[.int .u64 r.key, .float .f64 r.val]] w2 fun e w' => e = .returned (.tuple #[.int .u64 (runOps f len r).1.key, .bool ((runOps f len r).2 == 1)]) ∧ Below w2.heap.size w2 w')) :=
    Lib.hid (fun r hok => ⟨fun w2 hb => run_any a len cap rb ro f r w2 hln ha (fun h => (HR.out h).keep hb (HR.out h).lt hb.size) hok _ rfl, fun w2 hb => rrun_any a len cap rb ro f r w2 hln ha (fun h => (HR.out h).keep hb (HR.out h).lt hb.size) hok _ rfl,
      fun w2 hb => key_any a len cap rb ro f r w2 hln ha (fun h => (HR.out h).keep hb (HR.out h).lt hb.size) hok, fun w2 hb => rkey_any a len cap rb ro f r w2 hln ha (fun h => (HR.out h).keep hb (HR.out h).lt hb.size) hok⟩)
  have HA2 := Lib.hid ha2
  have HR2 := Lib.hid hr2
  have HL2 := Lib.hid hln2
  clear hr hln ha HR ha2 hr2 hln2
  go_enter Try.func4, Try.ntmps4
  go_wp2_with fail
  refine (C0.out _).mono ?_
  rintro e w1 ⟨rfl, hb⟩
  have p1 : Below w.heap.size w w1 := (by repeat' (first | with_reducible exact Below.refl _ _ | with_reducible assumption | with_reducible refine bel_drew ?_ | with_reducible refine bel_alloc ?_ _ | with_reducible refine bel_set ?_ ?_ _ | with_reducible refine bel_call ?_ (by assumption) | (dsimp only; omega) | (simp; done) | (simp; omega)))
  clear hb
  go_wp2_with fail
  go_loopg [5] len2 (fun g s5 wr => ∃ (i : Nat), i ≤ len2 ∧ g = len2 - i ∧ s5 = .int .i64 i ∧ Below w.heap.size w wr)
  case atStart => exact ⟨0, Nat.zero_le _, rfl, rfl, p1⟩
  case round =>
    clear p1 C0
    obtain ⟨i, hi, rfl, rfl, p⟩ := hrel
    by_cases hlt : i < len2
    · obtain rfl := HA2.out (by omega)
      have hr := Lib.hid (HR2.out (by omega))
      have hz2 : (i : Int) < (len2 : Int) := by omega
      have hw1 : IntKind.i64.wrap ((i : Int) + 1) = (i : Int) + 1 := Go.IntWalk.i64_in _ (by have := HL2.out; omega)
      obtain ⟨c1, c2, c3, c4⟩ := HC.out (f2 i) (hr.out.ok i hlt)
      have C1 := Lib.hid c1
      have C2 := Lib.hid c2
      have C3 := Lib.hid c3
      have C4 := Lib.hid c4
      have XX : Hid (∀ w', Below w.heap.size w w' → rb2 < w'.heap.size ∧ w'.cell? ⟨rb2, ro2 + i * 2, none⟩ = some (.int .u64 (f2 i).key) ∧ w'.cell? ⟨rb2, ro2 + i * 2 + 1, none⟩ = some (.float .f64 (f2 i).val)) := Lib.hid (fun w' p => hr.out.cells hlt p)
      have C5 := Lib.hid (fun w => osame_any (runOps f len (f2 i)).1 (runOps f len (f2 i)).1 w)
      rw [sameR_self] at C5
      clear c1 c2 c3 c4 HC hr
      generalize runOps f len (f2 i) = T at *
      generalize f2 i = r at *
      obtain ⟨⟨tk, tv⟩, tf⟩ := T
      obtain ⟨rk, rv⟩ := r
      dsimp only at *
      have hE1 : (tf != tf) = false := by simp
      have hE2 : (tk != tk) = false := by simp
      have hE3 : ((tf == 1) != (tf == 1)) = false := by simp
      obtain ⟨rz, x0, x1⟩ := XX.out _ p
      go_wp2_with fail
      refine (C1.out _ (by repeat' (first | with_reducible exact Below.refl _ _ | with_reducible assumption | with_reducible refine bel_drew ?_ | with_reducible refine bel_alloc ?_ _ | with_reducible refine bel_set ?_ ?_ _ | with_reducible refine bel_call ?_ (by assumption) | (dsimp only; omega) | (simp; done) | (simp; omega)))).mono ?_
      rintro e v1 ⟨rfl, hb⟩
      have p1 : Below w.heap.size w v1 := (by repeat' (first | with_reducible exact Below.refl _ _ | with_reducible assumption | with_reducible refine bel_drew ?_ | with_reducible refine bel_alloc ?_ _ | with_reducible refine bel_set ?_ ?_ _ | with_reducible refine bel_call ?_ (by assumption) | (dsimp only; omega) | (simp; done) | (simp; omega)))
      clear hb rz x0 x1 p
      obtain ⟨rz, x0, x1⟩ := XX.out _ p1
      go_wp2_with fail
      refine (C2.out _ (by repeat' (first | with_reducible exact Below.refl _ _ | with_reducible assumption | with_reducible refine bel_drew ?_ | with_reducible refine bel_alloc ?_ _ | with_reducible refine bel_set ?_ ?_ _ | with_reducible refine bel_call ?_ (by assumption) | (dsimp only; omega) | (simp; done) | (simp; omega)))).mono ?_
      rintro e v2 ⟨rfl, hb⟩
      have q1 : Blk v2 v1.heap.size [.int .u64 tk, .float .f64 tv] 31 := Blk.below (by repeat' (first | with_reducible assumption | (show (_ : List Value) = _; rfl) | with_reducible exact Blk.new _ _ rfl | (with_reducible refine Blk.new _ _ ?_; simp; done) | with_reducible apply Blk.set_eq | with_reducible apply Blk.other | with_reducible apply Blk.alloc | with_reducible apply Blk.drew | (simp; done) | (simp; omega))) hb
      have p2 : Below w.heap.size w v2 := (by repeat' (first | with_reducible exact Below.refl _ _ | with_reducible assumption | with_reducible refine bel_drew ?_ | with_reducible refine bel_alloc ?_ _ | with_reducible refine bel_set ?_ ?_ _ | with_reducible refine bel_call ?_ (by assumption) | (dsimp only; omega) | (simp; done) | (simp; omega)))
      clear hb rz x0 x1 p1
      obtain ⟨rz, x0, x1⟩ := XX.out _ p2
      go_wp2_with fail
      refine (C3.out _ (by repeat' (first | with_reducible exact Below.refl _ _ | with_reducible assumption | with_reducible refine bel_drew ?_ | with_reducible refine bel_alloc ?_ _ | with_reducible refine bel_set ?_ ?_ _ | with_reducible refine bel_call ?_ (by assumption) | (dsimp only; omega) | (simp; done) | (simp; omega)))).mono ?_
      rintro e v3 ⟨rfl, hb⟩
      have r1 : Blk v3 v1.heap.size [.int .u64 tk, .float .f64 tv] 31 := Blk.below (by repeat' (first | with_reducible assumption | (show (_ : List Value) = _; rfl) | with_reducible exact Blk.new _ _ rfl | (with_reducible refine Blk.new _ _ ?_; simp; done) | with_reducible apply Blk.set_eq | with_reducible apply Blk.other | with_reducible apply Blk.alloc | with_reducible apply Blk.drew | (simp; done) | (simp; omega))) hb
      have r2 : Blk v3 v2.heap.size [.int .u64 tk, .float .f64 tv] 31 := Blk.below (by repeat' (first | with_reducible assumption | (show (_ : List Value) = _; rfl) | with_reducible exact Blk.new _ _ rfl | (with_reducible refine Blk.new _ _ ?_; simp; done) | with_reducible apply Blk.set_eq | with_reducible apply Blk.other | with_reducible apply Blk.alloc | with_reducible apply Blk.drew | (simp; done) | (simp; omega))) hb
      have p3 : Below w.heap.size w v3 := (by repeat' (first | with_reducible exact Below.refl _ _ | with_reducible assumption | with_reducible refine bel_drew ?_ | with_reducible refine bel_alloc ?_ _ | with_reducible refine bel_set ?_ ?_ _ | with_reducible refine bel_call ?_ (by assumption) | (dsimp only; omega) | (simp; done) | (simp; omega)))
      clear hb rz x0 x1 p2 q1
      obtain ⟨rz, x0, x1⟩ := XX.out _ p3
      go_wp2_with fail
      refine (C4.out _ (by repeat' (first | with_reducible exact Below.refl _ _ | with_reducible assumption | with_reducible refine bel_drew ?_ | with_reducible refine bel_alloc ?_ _ | with_reducible refine bel_set ?_ ?_ _ | with_reducible refine bel_call ?_ (by assumption) | (dsimp only; omega) | (simp; done) | (simp; omega)))).mono ?_
      rintro e v4 ⟨rfl, hb⟩
      have s1 := Blk.below r1 hb
      have s2 := Blk.below r2 hb
      have p4 : Below w.heap.size w v4 := (by repeat' (first | with_reducible exact Below.refl _ _ | with_reducible assumption | with_reducible refine bel_drew ?_ | with_reducible refine bel_alloc ?_ _ | with_reducible refine bel_set ?_ ?_ _ | with_reducible refine bel_call ?_ (by assumption) | (dsimp only; omega) | (simp; done) | (simp; omega)))
      clear hb rz x0 x1 p3 r1 r2
      have s1c0 : v4.cell? ⟨v1.heap.size, 0, none⟩ = some (.int .u64 tk) := s1.cell 0; have s1c1 : v4.cell? ⟨v1.heap.size, 1, none⟩ = some (.float .f64 tv) := s1.cell 1; have s1z := s1.lt
      have s2c0 : v4.cell? ⟨v2.heap.size, 0, none⟩ = some (.int .u64 tk) := s2.cell 0; have s2c1 : v4.cell? ⟨v2.heap.size, 1, none⟩ = some (.float .f64 tv) := s2.cell 1; have s2z := s2.lt
      go_wp2_with fail
      refine (C5.out _).mono ?_
      rintro e v5 ⟨rfl, hb⟩
      have p5 : Below w.heap.size w v5 := (by repeat' (first | with_reducible exact Below.refl _ _ | with_reducible assumption | with_reducible refine bel_drew ?_ | with_reducible refine bel_alloc ?_ _ | with_reducible refine bel_set ?_ ?_ _ | with_reducible refine bel_call ?_ (by assumption) | (dsimp only; omega) | (simp; done) | (simp; omega)))
      clear hb s1c0 s1c1 s1z s2c0 s2c1 s2z s1 s2
      go_wp2_with fail
      go_roundg (len2 - (i + 1))
      case measure => omega
      case rel => exact ⟨i + 1, hlt, rfl, (by first | rfl | simp), (by repeat' (first | with_reducible exact Below.refl _ _ | with_reducible assumption | with_reducible refine bel_drew ?_ | with_reducible refine bel_alloc ?_ _ | with_reducible refine bel_set ?_ ?_ _ | with_reducible refine bel_call ?_ (by assumption) | (dsimp only; omega) | (simp; done) | (simp; omega)))⟩
    · have hz2 : ¬ ((i : Int) < (len2 : Int)) := by omega
      go_wp2_with fail
      go_ret
      exact ⟨rfl, p⟩
end Go.Proofs.Ytgcbjpdmnlanoaa
