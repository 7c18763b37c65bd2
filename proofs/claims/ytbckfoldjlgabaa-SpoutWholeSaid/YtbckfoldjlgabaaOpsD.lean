/- WALKS of ops: through, with what it defers. -/
import Derived.Test.YtbckfoldjlgabaaOpsC
import Derived.Deep.LoopGhost
namespace Go.Proofs.Ytbckfoldjlgabaa
open Go.RowKit
open Fl (nan key canon)
theorem results_cells {P : Program} {fn : Func} {p q : Tmp} {ty it t u : TypeId} {b1 b2 : Nat} {w : World} (h : fn.results = #[.cell p ty, .cell q it]) (tmps : Array Value) (cs : List Value) (k : IntKind) (z : Int)
    (hp : tmps.getD p undef = .pointer (some ⟨b1, 0, none⟩)) (hq : tmps.getD q undef = .pointer (some ⟨b2, 0, none⟩)) (ha : (isAgg ty).run P w = .ok true w) (hz : (sizeOf ty).run P w = .ok cs.length w) (hb : Blk w b1 cs t)
    (ha2 : (isAgg it).run P w = .ok false w) (hb2 : Blk w b2 [.int k z] u) : (results fn tmps).run P w = .ok (.tuple #[.agg cs.toArray, .int k z]) w := by
  have e1 := hb.load ha hz
  have hc : w.cell? ⟨b2, 0, none⟩ = some (.int k z) := hb2.cell 0
  have e2 : (loadVar it ⟨b2, 0, none⟩).run P w = .ok (.int k z) w := by
    unfold loadVar
    simp only [Sem.run_bind, ha2, Result.andThen_ok]
    simp [go_sem, hc]
  rw [Array.getD_eq_getD_getElem?] at hp hq
  unfold results
  rw [h]
  have e3 : ∀ a, (asAddr (.pointer (some a))).run P w = .ok a w := fun _ => rfl
  simp [Sem.run_bind, hp, hq, Result.andThen, e1, e2, e3]
theorem catch_panicking (b1 b2 : Nat) (x : Int) (y : Nat) (z : Int) (u : TypeId) (pv : Value) (older : List PanicEntry) (w : World) (hne : b1 ≠ b2) (h1 : Blk w b1 [.int .u64 x, .float .f64 y] 66) (h2 : Blk w b2 [.int .i64 z] 3) :
    CallsD Try.prog 73 #[.pointer (some ⟨b1, 0, none⟩), .pointer (some ⟨b2, 0, none⟩)] (.panicking ({ v := .iface u pv, recovered := false } :: older)) w fun e u' w' =>
      e = .returned (.tuple #[]) ∧ u' = .panicking ({ v := .iface u pv, recovered := true } :: older) ∧ w' = ((w.setCell ⟨b1, 0, none⟩ (.int .u64 0)).setCell ⟨b1, 1, none⟩ (.float .f64 0)).setCell ⟨b2, 0, none⟩ (.int .i64 3) := by
  have h1c0 : w.cell? ⟨b1, 0, none⟩ = some (.int .u64 x) := h1.cell 0; have h1c1 : w.cell? ⟨b1, 1, none⟩ = some (.float .f64 y) := h1.cell 1; have h1z := h1.lt
  have h2c0 : w.cell? ⟨b2, 0, none⟩ = some (.int .i64 z) := h2.cell 0; have h2z := h2.lt
  have f10 := h1.free 0
  have f11 := h1.free 1
  have f20 := h2.free 0
  refine callsD_of_wpS Try.func73 rfl fun c₀ cs hu => ?_
  apply wpS_seq
  apply wpS_region
  simp [wpOpsS, go_sem, recoverD, hu, Try.ntmps73, Exit.thenS]
  refine wpS_cond (t := true) (by simp [Act.eval, Array.replicate]) ?_
  simp only [if_true]
  apply wpS_region
  simp [wpOpsS, go_sem, h1c0, h1c1, h2c0, f10, f11, f20, bodyPostS, results, Try.results73]
theorem catch_idle (b1 b2 : Nat) (w : World) :
    CallsD Try.prog 73 #[.pointer (some ⟨b1, 0, none⟩), .pointer (some ⟨b2, 0, none⟩)] .returning w fun e u' w' => e = .returned (.tuple #[]) ∧ u' = .returning ∧ w' = w := by
  refine callsD_of_wpS Try.func73 rfl fun c₀ cs hu => ?_
  apply wpS_seq
  apply wpS_region
  simp [wpOpsS, go_sem, recoverD, hu, Try.ntmps73, Exit.thenS]
  refine wpS_cond (t := false) (by simp [Act.eval, Array.replicate]) ?_
  simp only [Bool.false_eq_true, if_false]
  refine wpS_of_wp (wp_skip ?_)
  cases c₀
  simp_all [bodyPostS, results, Try.results73]
theorem fate_cases (o : Stp) (x : Nat) : fate o x = 1 ∨ fate o x = 2 ∨ fate o x = 3 := by
  unfold fate
  repeat' split
  all_goals simp
/-- the steps in a slice -/
structure Stps (w : World) (b o len : Nat) (f : Nat → Stp) : Prop where
  lt : b < w.heap.size
  ok : ∀ i, i < len → (f i).ok
  c0 : ∀ i, i < len → w.cell? ⟨b, o + (i * 3 + 0), none⟩ = some (.int .i64 (f i).kind)
  c1 : ∀ i, i < len → w.cell? ⟨b, o + (i * 3 + 1), none⟩ = some (.int .i64 (f i).n)
  c2 : ∀ i, i < len → w.cell? ⟨b, o + (i * 3 + 2), none⟩ = some (.float .f64 (f i).x)
theorem Stps.keep {w w' : World} {b o len : Nat} {f : Nat → Stp} (h : Stps w b o len f) {n : Nat} (hb : Below n w w') (hn : b < n) (hs : w.heap.size ≤ w'.heap.size) : Stps w' b o len f :=
  ⟨Nat.lt_of_lt_of_le h.lt hs, h.ok, fun i hi => (hb.cell (p := ⟨b, o + (i * 3 + 0), none⟩) hn).trans (h.c0 i hi), fun i hi => (hb.cell (p := ⟨b, o + (i * 3 + 1), none⟩) hn).trans (h.c1 i hi), fun i hi => (hb.cell (p := ⟨b, o + (i * 3 + 2), none⟩) hn).trans (h.c2 i hi)⟩
/-- the worlds of the loop -/
structure ThJ (w : World) (f : Nat → Stp) (len i : Nat) (r : Rc) (T : Rc × Int) (wr : World) : Prop where
  bel : Below w.heap.size w wr
  one : Blk wr w.heap.size [.int .u64 r.key, .float .f64 r.val] 66
  two : Blk wr (w.heap.size + 1) [.int .u64 0, .float .f64 0] 66
  three : Blk wr (w.heap.size + 1 + 1) [.int .i64 0] 3
  ok : r.ok
  can : canon r.val = r.val
  eq : thru f (len - i) i r = T
set_option maxRecDepth 100000 in
set_option maxHeartbeats 8000000 in
theorem through_any (a : Option Addr) (len cap rb ro : Nat) (f : Nat → Stp) (r : Rc) (w : World) (hln : len ≤ 9223372036854775807) (ha : 0 < len → a = some ⟨rb, ro, none⟩) (hr : 0 < len → Stps w rb ro len f) (hst : ∀ i, i < len → isStp (f i) = true) (hok : r.ok) (T : Rc × Int) (hT : thru f len 0 ⟨r.key, canon r.val⟩ = T) :
    Calls Try.prog 70 #[.slice a len cap, .agg #[.int .u64 r.key, .float .f64 r.val]] w fun e w' => e = .returned (.tuple #[.agg #[.int .u64 T.1.key, .float .f64 T.1.val], .int .i64 T.2]) ∧ Below w.heap.size w w' := by
  have hmf : ∀ (fn : Fn) (first cap : Array Value) (w : World), (Instr.makeFunc fn first cap).run Try.prog w = .ok (.func fn first cap) w := fun _ _ _ _ => rfl
  have C1 := Lib.hid (fun w => canon_any r.val w hok.2.2)
  have HA := Lib.hid ha
  have HR := Lib.hid hr
  have HL := Lib.hid hln
  have HS := Lib.hid hst
  have HT := Lib.hid hT
  have HO := Lib.hid hok
  clear ha hr hln hst hT hok
  go_enter_defers Try.func70, Try.ntmps70
  go_wp2_with fail
  refine (C1.out _).mono ?_
  rintro e v ⟨rfl, rfl⟩
  go_wp2_with fail
  go_loopg [17] len (fun g s17 wr => ∃ (i : Nat) (q : Rc), i ≤ len ∧ g = len - i ∧ s17 = .int .i64 i ∧ ThJ w f len i q T wr)
  case atStart =>
    refine ⟨0, ⟨r.key, canon r.val⟩, Nat.zero_le _, rfl, rfl, ⟨(by repeat' (first | with_reducible exact Below.refl _ _ | with_reducible assumption | with_reducible refine bel_drew ?_ | with_reducible refine bel_alloc ?_ _ | with_reducible refine bel_set ?_ ?_ _ | with_reducible refine bel_call ?_ (by assumption) | (dsimp only; omega) | (simp; done) | (simp; omega))), ?_, ?_, ?_, ⟨HO.out.1, HO.out.2.1, Fl.canon_lt HO.out.2.2⟩, Fl.canon_canon _, HT.out⟩⟩
    · exact (by repeat' (first | with_reducible assumption | (show (_ : List Value) = _; rfl) | with_reducible exact Blk.new _ _ rfl | (with_reducible refine Blk.new _ _ ?_; simp; done) | with_reducible apply Blk.set_eq | with_reducible apply Blk.other | with_reducible apply Blk.alloc | with_reducible apply Blk.drew | (simp; done) | (simp; omega)))
    · exact (by repeat' (first | with_reducible assumption | (show (_ : List Value) = _; rfl) | with_reducible exact Blk.new _ _ rfl | (with_reducible refine Blk.new _ _ ?_; simp; done) | with_reducible apply Blk.set_eq | with_reducible apply Blk.other | with_reducible apply Blk.alloc | with_reducible apply Blk.drew | (simp; done) | (simp; omega)))
    · exact (by repeat' (first | with_reducible assumption | (show (_ : List Value) = _; rfl) | with_reducible exact Blk.new _ _ rfl | (with_reducible refine Blk.new _ _ ?_; simp; done) | with_reducible apply Blk.set_eq | with_reducible apply Blk.other | with_reducible apply Blk.alloc | with_reducible apply Blk.drew | (simp; done) | (simp; omega)))
  case round =>
    obtain ⟨i, q, hi, rfl, rfl, hJ⟩ := hrel
    clear C1 HT HO
    have p := hJ.bel
    have q1 := hJ.one
    have q2 := hJ.two
    have q3 := hJ.three
    have q1c0 : wr.cell? ⟨w.heap.size, 0, none⟩ = some (.int .u64 q.key) := q1.cell 0; have q1c1 : wr.cell? ⟨w.heap.size, 1, none⟩ = some (.float .f64 q.val) := q1.cell 1; have q1z := q1.lt
    have q2c0 : wr.cell? ⟨(w.heap.size + 1), 0, none⟩ = some (.int .u64 0) := q2.cell 0; have q2c1 : wr.cell? ⟨(w.heap.size + 1), 1, none⟩ = some (.float .f64 0) := q2.cell 1; have q2z := q2.lt
    have q3c0 : wr.cell? ⟨(w.heap.size + 1 + 1), 0, none⟩ = some (.int .i64 0) := q3.cell 0; have q3z := q3.lt
    have q1f0 := q1.free 0
    have q1f1 := q1.free 1
    have q2f0 := q2.free 0
    have q2f1 := q2.free 1
    have q3f0 := q3.free 0
    by_cases hlt : i < len
    · obtain rfl := HA.out (by omega)
      have hr := HR.out (by omega)
      have hs := HS.out i hlt
      have hz2 : (i : Int) < (len : Int) := by omega
      have hw1 : IntKind.i64.wrap ((i : Int) + 1) = (i : Int) + 1 := Go.IntWalk.i64_in _ (by have := HL.out; omega)
      have rz : rb < wr.heap.size := Nat.lt_of_lt_of_le hr.lt p.size
      have x0 : wr.cell? ⟨rb, ro + i * 3, none⟩ = some (.int .i64 (f i).kind) := (p.cell (p := ⟨rb, ro + (i * 3 + 0), none⟩) hr.lt).trans (hr.c0 i hlt)
      have x1 : wr.cell? ⟨rb, ro + i * 3 + 1, none⟩ = some (.int .i64 (f i).n) := (p.cell (p := ⟨rb, ro + (i * 3 + 1), none⟩) hr.lt).trans (hr.c1 i hlt)
      have x2 : wr.cell? ⟨rb, ro + i * 3 + 2, none⟩ = some (.float .f64 (f i).x) := (p.cell (p := ⟨rb, ro + (i * 3 + 2), none⟩) hr.lt).trans (hr.c2 i hlt)
      have ho := hr.ok i hlt
      have hth : thru f (len - i) i q = if fate (f i) q.val = 1 then thru f (len - (i + 1)) (i + 1) ⟨nkey (f i) q.key q.val, nval (f i) q.val⟩ else (⟨0, 0⟩, fate (f i) q.val) := by
        rw [show len - i = (len - (i + 1)) + 1 by omega]
        rfl
      have HJ := Lib.hid hJ
      have A1 := fun w (h : fate (f i) (canon q.val) ≠ 3) => apply_any (f i) q.key q.val w ho hs hJ.ok.1 hJ.ok.2.2 h
      have A2 := fun w (h : fate (f i) (canon q.val) = 3) => apply_trap (f i) q.key q.val w hJ.ok.2.2 h
      rw [hJ.can] at A1 A2
      have hth2 := hJ.eq
      rw [hth] at hth2
      have nk := nkey_ok (x := q.val) hs hJ.ok.1 hJ.ok.2.1
      have nl := nval_lt (o := f i) hJ.ok.2.2
      have nc := nval_canon (o := f i) hJ.can
      clear hr hs hth hJ
      have NK := Lib.hid (And.intro nk (And.intro nl nc))
      clear nk nl nc
      generalize f i = o at *
      obtain ⟨kd, n, y⟩ := o
      dsimp only at x0 x1 x2 A1 A2
      have hfc := fate_cases ⟨kd, n, y⟩ q.val
      rcases hfc with hf | hf | hf
      · rw [hf, if_pos rfl] at hth2
        have a3 := fun w => A1 w (by rw [hf]; decide)
        rw [hf, show decide ((1 : Int) = 1) = true from rfl] at a3
        have A3 := Lib.hid a3
        clear a3
        have HT := Lib.hid hth2
        clear A1 A2 hf hth2 ho
        obtain ⟨qk, qv⟩ := q
        dsimp only at *
        generalize nkey ⟨kd, n, y⟩ qk qv = k2 at *
        generalize nval ⟨kd, n, y⟩ qv = v2 at *
        go_wp2_with fail
        refine (A3.out _).mono ?_
        rintro e w1 ⟨rfl, hb⟩
        have r1 : Blk w1 w.heap.size [.int .u64 qk, .float .f64 qv] 66 := Blk.below (by repeat' (first | with_reducible assumption | (show (_ : List Value) = _; rfl) | with_reducible exact Blk.new _ _ rfl | (with_reducible refine Blk.new _ _ ?_; simp; done) | with_reducible apply Blk.set_eq | with_reducible apply Blk.other | with_reducible apply Blk.alloc | with_reducible apply Blk.drew | (simp; done) | (simp; omega))) hb
        have r2 : Blk w1 (w.heap.size + 1) [.int .u64 0, .float .f64 0] 66 := Blk.below (by repeat' (first | with_reducible assumption | (show (_ : List Value) = _; rfl) | with_reducible exact Blk.new _ _ rfl | (with_reducible refine Blk.new _ _ ?_; simp; done) | with_reducible apply Blk.set_eq | with_reducible apply Blk.other | with_reducible apply Blk.alloc | with_reducible apply Blk.drew | (simp; done) | (simp; omega))) hb
        have r3 : Blk w1 (w.heap.size + 1 + 1) [.int .i64 0] 3 := Blk.below (by repeat' (first | with_reducible assumption | (show (_ : List Value) = _; rfl) | with_reducible exact Blk.new _ _ rfl | (with_reducible refine Blk.new _ _ ?_; simp; done) | with_reducible apply Blk.set_eq | with_reducible apply Blk.other | with_reducible apply Blk.alloc | with_reducible apply Blk.drew | (simp; done) | (simp; omega))) hb
        have p1 : Below w.heap.size w w1 := (by repeat' (first | with_reducible exact Below.refl _ _ | with_reducible assumption | with_reducible refine bel_drew ?_ | with_reducible refine bel_alloc ?_ _ | with_reducible refine bel_set ?_ ?_ _ | with_reducible refine bel_call ?_ (by assumption) | (dsimp only; omega) | (simp; done) | (simp; omega)))
        clear hb q1 q2 q3 q1c0 q1c1 q2c0 q2c1 q3c0 q1f0 q1f1 q2f0 q2f1 q3f0 q1z q2z q3z x0 x1 x2 rz p
        have r1c0 : w1.cell? ⟨w.heap.size, 0, none⟩ = some (.int .u64 qk) := r1.cell 0; have r1c1 : w1.cell? ⟨w.heap.size, 1, none⟩ = some (.float .f64 qv) := r1.cell 1; have r1z := r1.lt
        have r2c0 : w1.cell? ⟨(w.heap.size + 1), 0, none⟩ = some (.int .u64 0) := r2.cell 0; have r2c1 : w1.cell? ⟨(w.heap.size + 1), 1, none⟩ = some (.float .f64 0) := r2.cell 1; have r2z := r2.lt
        have r3c0 : w1.cell? ⟨(w.heap.size + 1 + 1), 0, none⟩ = some (.int .i64 0) := r3.cell 0; have r3z := r3.lt
        have r1f0 := r1.free 0
        have r1f1 := r1.free 1
        have r2f0 := r2.free 0
        have r2f1 := r2.free 1
        have r3f0 := r3.free 0
        go_wp2_with fail
        go_roundg (len - (i + 1))
        case measure => omega
        case rel =>
          refine ⟨i + 1, ⟨k2, v2⟩, hlt, rfl, (by first | rfl | simp), ⟨(by repeat' (first | with_reducible exact Below.refl _ _ | with_reducible assumption | with_reducible refine bel_drew ?_ | with_reducible refine bel_alloc ?_ _ | with_reducible refine bel_set ?_ ?_ _ | with_reducible refine bel_call ?_ (by assumption) | (dsimp only; omega) | (simp; done) | (simp; omega))), ?_, ?_, ?_, ⟨NK.out.1.1, NK.out.1.2, NK.out.2.1⟩, NK.out.2.2, HT.out⟩⟩
          · exact (by repeat' (first | with_reducible assumption | (show (_ : List Value) = _; rfl) | with_reducible exact Blk.new _ _ rfl | (with_reducible refine Blk.new _ _ ?_; simp; done) | with_reducible apply Blk.set_eq | with_reducible apply Blk.other | with_reducible apply Blk.alloc | with_reducible apply Blk.drew | (simp; done) | (simp; omega)))
          · exact (by repeat' (first | with_reducible assumption | (show (_ : List Value) = _; rfl) | with_reducible exact Blk.new _ _ rfl | (with_reducible refine Blk.new _ _ ?_; simp; done) | with_reducible apply Blk.set_eq | with_reducible apply Blk.other | with_reducible apply Blk.alloc | with_reducible apply Blk.drew | (simp; done) | (simp; omega)))
          · exact (by repeat' (first | with_reducible assumption | (show (_ : List Value) = _; rfl) | with_reducible exact Blk.new _ _ rfl | (with_reducible refine Blk.new _ _ ?_; simp; done) | with_reducible apply Blk.set_eq | with_reducible apply Blk.other | with_reducible apply Blk.alloc | with_reducible apply Blk.drew | (simp; done) | (simp; omega)))
      · rw [hf, if_neg (by decide)] at hth2
        have a3 := fun w => A1 w (by rw [hf]; decide)
        rw [hf, show decide ((2 : Int) = 1) = false from rfl] at a3
        have A3 := Lib.hid a3
        clear a3
        have HT := Lib.hid hth2
        clear A1 A2 hf hth2 ho
        obtain ⟨qk, qv⟩ := q
        dsimp only at *
        generalize nkey ⟨kd, n, y⟩ qk qv = k2 at *
        generalize nval ⟨kd, n, y⟩ qv = v2 at *
        go_wp2_with fail
        refine (A3.out _).mono ?_
        rintro e w1 ⟨rfl, hb⟩
        have r1 : Blk w1 w.heap.size [.int .u64 qk, .float .f64 qv] 66 := Blk.below (by repeat' (first | with_reducible assumption | (show (_ : List Value) = _; rfl) | with_reducible exact Blk.new _ _ rfl | (with_reducible refine Blk.new _ _ ?_; simp; done) | with_reducible apply Blk.set_eq | with_reducible apply Blk.other | with_reducible apply Blk.alloc | with_reducible apply Blk.drew | (simp; done) | (simp; omega))) hb
        have r2 : Blk w1 (w.heap.size + 1) [.int .u64 0, .float .f64 0] 66 := Blk.below (by repeat' (first | with_reducible assumption | (show (_ : List Value) = _; rfl) | with_reducible exact Blk.new _ _ rfl | (with_reducible refine Blk.new _ _ ?_; simp; done) | with_reducible apply Blk.set_eq | with_reducible apply Blk.other | with_reducible apply Blk.alloc | with_reducible apply Blk.drew | (simp; done) | (simp; omega))) hb
        have r3 : Blk w1 (w.heap.size + 1 + 1) [.int .i64 0] 3 := Blk.below (by repeat' (first | with_reducible assumption | (show (_ : List Value) = _; rfl) | with_reducible exact Blk.new _ _ rfl | (with_reducible refine Blk.new _ _ ?_; simp; done) | with_reducible apply Blk.set_eq | with_reducible apply Blk.other | with_reducible apply Blk.alloc | with_reducible apply Blk.drew | (simp; done) | (simp; omega))) hb
        have p1 : Below w.heap.size w w1 := (by repeat' (first | with_reducible exact Below.refl _ _ | with_reducible assumption | with_reducible refine bel_drew ?_ | with_reducible refine bel_alloc ?_ _ | with_reducible refine bel_set ?_ ?_ _ | with_reducible refine bel_call ?_ (by assumption) | (dsimp only; omega) | (simp; done) | (simp; omega)))
        clear hb q1 q2 q3 q1c0 q1c1 q2c0 q2c1 q3c0 q1f0 q1f1 q2f0 q2f1 q3f0 q1z q2z q3z x0 x1 x2 rz p
        have r1c0 : w1.cell? ⟨w.heap.size, 0, none⟩ = some (.int .u64 qk) := r1.cell 0; have r1c1 : w1.cell? ⟨w.heap.size, 1, none⟩ = some (.float .f64 qv) := r1.cell 1; have r1z := r1.lt
        have r2c0 : w1.cell? ⟨(w.heap.size + 1), 0, none⟩ = some (.int .u64 0) := r2.cell 0; have r2c1 : w1.cell? ⟨(w.heap.size + 1), 1, none⟩ = some (.float .f64 0) := r2.cell 1; have r2z := r2.lt
        have r3c0 : w1.cell? ⟨(w.heap.size + 1 + 1), 0, none⟩ = some (.int .i64 0) := r3.cell 0; have r3z := r3.lt
        have r1f0 := r1.free 0
        have r1f1 := r1.free 1
        have r2f0 := r2.free 0
        have r2f1 := r2.free 1
        have r3f0 := r3.free 0
        go_wp2_with fail
        refine leaves_cons (f := 73) (args := #[.pointer (some ⟨w.heap.size + 1, 0, none⟩), .pointer (some ⟨w.heap.size + 1 + 1, 0, none⟩)]) (by simp) (by simp [go_sem]) ?_
        refine (catch_idle _ _ _).mono ?_
        rintro e u' w'' ⟨rfl, rfl, rfl⟩
        simp only [Go.Leaves, settle]
        refine ⟨_, results_cells (t := 66) (u := 3) Try.results70 _ [.int .u64 0, .float .f64 0] .i64 2 rfl rfl (Try.isAgg66 _) (Try.sizeOf66 _) ?_ (Try.isAgg3 _) ?_, ?_⟩
        · exact (by repeat' (first | with_reducible assumption | (show (_ : List Value) = _; rfl) | with_reducible exact Blk.new _ _ rfl | (with_reducible refine Blk.new _ _ ?_; simp; done) | with_reducible apply Blk.set_eq | with_reducible apply Blk.other | with_reducible apply Blk.alloc | with_reducible apply Blk.drew | (simp; done) | (simp; omega)))
        · exact (by repeat' (first | with_reducible assumption | (show (_ : List Value) = _; rfl) | with_reducible exact Blk.new _ _ rfl | (with_reducible refine Blk.new _ _ ?_; simp; done) | with_reducible apply Blk.set_eq | with_reducible apply Blk.other | with_reducible apply Blk.alloc | with_reducible apply Blk.drew | (simp; done) | (simp; omega)))
        · rw [← HT.out]
          exact ⟨rfl, (by repeat' (first | with_reducible exact Below.refl _ _ | with_reducible assumption | with_reducible refine bel_drew ?_ | with_reducible refine bel_alloc ?_ _ | with_reducible refine bel_set ?_ ?_ _ | with_reducible refine bel_call ?_ (by assumption) | (dsimp only; omega) | (simp; done) | (simp; omega)))⟩
      · rw [hf, if_neg (by decide)] at hth2
        have A3 := Lib.hid (fun w => A2 w hf)
        have HT := Lib.hid hth2
        clear A1 A2 hf hth2 ho
        obtain ⟨qk, qv⟩ := q
        dsimp only at *
        go_wp2_with fail
        refine (A3.out _).mono ?_
        rintro e w1 ⟨⟨u, pv, rfl⟩, hb⟩
        have r1 : Blk w1 w.heap.size [.int .u64 qk, .float .f64 qv] 66 := Blk.below (by repeat' (first | with_reducible assumption | (show (_ : List Value) = _; rfl) | with_reducible exact Blk.new _ _ rfl | (with_reducible refine Blk.new _ _ ?_; simp; done) | with_reducible apply Blk.set_eq | with_reducible apply Blk.other | with_reducible apply Blk.alloc | with_reducible apply Blk.drew | (simp; done) | (simp; omega))) hb
        have r2 : Blk w1 (w.heap.size + 1) [.int .u64 0, .float .f64 0] 66 := Blk.below (by repeat' (first | with_reducible assumption | (show (_ : List Value) = _; rfl) | with_reducible exact Blk.new _ _ rfl | (with_reducible refine Blk.new _ _ ?_; simp; done) | with_reducible apply Blk.set_eq | with_reducible apply Blk.other | with_reducible apply Blk.alloc | with_reducible apply Blk.drew | (simp; done) | (simp; omega))) hb
        have r3 : Blk w1 (w.heap.size + 1 + 1) [.int .i64 0] 3 := Blk.below (by repeat' (first | with_reducible assumption | (show (_ : List Value) = _; rfl) | with_reducible exact Blk.new _ _ rfl | (with_reducible refine Blk.new _ _ ?_; simp; done) | with_reducible apply Blk.set_eq | with_reducible apply Blk.other | with_reducible apply Blk.alloc | with_reducible apply Blk.drew | (simp; done) | (simp; omega))) hb
        have p1 : Below w.heap.size w w1 := (by repeat' (first | with_reducible exact Below.refl _ _ | with_reducible assumption | with_reducible refine bel_drew ?_ | with_reducible refine bel_alloc ?_ _ | with_reducible refine bel_set ?_ ?_ _ | with_reducible refine bel_call ?_ (by assumption) | (dsimp only; omega) | (simp; done) | (simp; omega)))
        clear hb q1 q2 q3 q1c0 q1c1 q2c0 q2c1 q3c0 q1f0 q1f1 q2f0 q2f1 q3f0 q1z q2z q3z x0 x1 x2 rz p
        have r1c0 : w1.cell? ⟨w.heap.size, 0, none⟩ = some (.int .u64 qk) := r1.cell 0; have r1c1 : w1.cell? ⟨w.heap.size, 1, none⟩ = some (.float .f64 qv) := r1.cell 1; have r1z := r1.lt
        have r2c0 : w1.cell? ⟨(w.heap.size + 1), 0, none⟩ = some (.int .u64 0) := r2.cell 0; have r2c1 : w1.cell? ⟨(w.heap.size + 1), 1, none⟩ = some (.float .f64 0) := r2.cell 1; have r2z := r2.lt
        have r3c0 : w1.cell? ⟨(w.heap.size + 1 + 1), 0, none⟩ = some (.int .i64 0) := r3.cell 0; have r3z := r3.lt
        have r1f0 := r1.free 0
        have r1f1 := r1.free 1
        have r2f0 := r2.free 0
        have r2f1 := r2.free 1
        have r3f0 := r3.free 0
        go_wp2_with fail
        refine leaves_cons (f := 73) (args := #[.pointer (some ⟨w.heap.size + 1, 0, none⟩), .pointer (some ⟨w.heap.size + 1 + 1, 0, none⟩)]) (by simp) (by simp [go_sem]) ?_
        refine (catch_panicking _ _ _ _ _ _ _ _ _ (by omega) r2 r3).mono ?_
        rintro e u' w'' ⟨rfl, rfl, rfl⟩
        simp only [settle]
        refine ⟨_, results_cells (t := 66) (u := 3) Try.results70 _ [.int .u64 0, .float .f64 0] .i64 3 rfl rfl (Try.isAgg66 _) (Try.sizeOf66 _) ?_ (Try.isAgg3 _) ?_, ?_⟩
        · exact (by repeat' (first | with_reducible assumption | (show (_ : List Value) = _; rfl) | with_reducible exact Blk.new _ _ rfl | (with_reducible refine Blk.new _ _ ?_; simp; done) | with_reducible apply Blk.set_eq | with_reducible apply Blk.other | with_reducible apply Blk.alloc | with_reducible apply Blk.drew | (simp; done) | (simp; omega)))
        · exact (by repeat' (first | with_reducible assumption | (show (_ : List Value) = _; rfl) | with_reducible exact Blk.new _ _ rfl | (with_reducible refine Blk.new _ _ ?_; simp; done) | with_reducible apply Blk.set_eq | with_reducible apply Blk.other | with_reducible apply Blk.alloc | with_reducible apply Blk.drew | (simp; done) | (simp; omega)))
        · rw [← HT.out]
          exact ⟨rfl, (by repeat' (first | with_reducible exact Below.refl _ _ | with_reducible assumption | with_reducible refine bel_drew ?_ | with_reducible refine bel_alloc ?_ _ | with_reducible refine bel_set ?_ ?_ _ | with_reducible refine bel_call ?_ (by assumption) | (dsimp only; omega) | (simp; done) | (simp; omega)))⟩
    · have hz2 : ¬ (i : Int) < (len : Int) := by omega
      have HT := Lib.hid hJ.eq
      clear hJ
      obtain rfl : i = len := by omega
      go_wp2_with fail
      refine leaves_cons (f := 73) (args := #[.pointer (some ⟨w.heap.size + 1, 0, none⟩), .pointer (some ⟨w.heap.size + 1 + 1, 0, none⟩)]) (by simp) (by simp [go_sem]) ?_
      refine (catch_idle _ _ _).mono ?_
      rintro e u' w'' ⟨rfl, rfl, rfl⟩
      simp only [Go.Leaves, settle]
      refine ⟨_, results_cells (t := 66) (u := 3) Try.results70 _ [.int .u64 q.key, .float .f64 q.val] .i64 1 rfl rfl (Try.isAgg66 _) (Try.sizeOf66 _) ?_ (Try.isAgg3 _) ?_, ?_⟩
      · exact (by repeat' (first | with_reducible assumption | (show (_ : List Value) = _; rfl) | with_reducible exact Blk.new _ _ rfl | (with_reducible refine Blk.new _ _ ?_; simp; done) | with_reducible apply Blk.set_eq | with_reducible apply Blk.other | with_reducible apply Blk.alloc | with_reducible apply Blk.drew | (simp; done) | (simp; omega)))
      · exact (by repeat' (first | with_reducible assumption | (show (_ : List Value) = _; rfl) | with_reducible exact Blk.new _ _ rfl | (with_reducible refine Blk.new _ _ ?_; simp; done) | with_reducible apply Blk.set_eq | with_reducible apply Blk.other | with_reducible apply Blk.alloc | with_reducible apply Blk.drew | (simp; done) | (simp; omega)))
      · rw [← HT.out, Nat.sub_self]
        exact ⟨rfl, (by repeat' (first | with_reducible exact Below.refl _ _ | with_reducible assumption | with_reducible refine bel_drew ?_ | with_reducible refine bel_alloc ?_ _ | with_reducible refine bel_set ?_ ?_ _ | with_reducible refine bel_call ?_ (by assumption) | (dsimp only; omega) | (simp; done) | (simp; omega)))⟩
end Go.Proofs.Ytbckfoldjlgabaa
