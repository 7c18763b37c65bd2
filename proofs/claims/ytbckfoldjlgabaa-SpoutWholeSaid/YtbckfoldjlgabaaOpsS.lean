/- WALKS of the reference of ops: Check, Run, Key. -/
import Derived.Test.YtbckfoldjlgabaaOpsR
import Derived.Test.YtbckfoldjlgabaaRegionG
namespace Go.Proofs.Ytbckfoldjlgabaa
open Go.RowKit
open Fl (nan key canon)
set_option maxRecDepth 100000 in
set_option maxHeartbeats 4000000 in
theorem rcheck_any (a : Option Addr) (len cap rb ro : Nat) (f : Nat → Stp) (w : World) (hln : len ≤ 9223372036854775807) (ha : 0 < len → a = some ⟨rb, ro, none⟩) (hr : 0 < len → Stps w rb ro len f) :
    Calls Try.prog 52 #[.slice a len cap] w fun e w' => e = .returned (.int .i64 (chk f len)) ∧ Below w.heap.size w w' := by
  have CI := Lib.hid rstep_any
  have HA := Lib.hid ha
  have HR := Lib.hid hr
  have HL := Lib.hid hln
  unfold chk
  by_cases h8 : 8 < len
  · rw [if_pos h8]
    have h8' : (8 : Int) < (len : Int) := by omega
    clear ha hr hln
    go_enter Try.func52, Try.ntmps52
    go_wp2_with fail
    go_ret
    exact ⟨rfl, (by repeat' (first | with_reducible exact Below.refl _ _ | with_reducible assumption | with_reducible refine bel_drew ?_ | with_reducible refine bel_alloc ?_ _ | with_reducible refine bel_set ?_ ?_ _ | with_reducible refine bel_call ?_ (by assumption) | (dsimp only; omega) | (simp; done) | (simp; omega)))⟩
  · rw [if_neg h8]
    have h8' : ¬ (8 : Int) < (len : Int) := by omega
    have hbad : ∀ i, i < len → isStp (f i) = false → allStp f len 0 = false := fun i h1 h2 => allStp_false (Nat.zero_le i) (by omega) h2
    have hall : (∀ j, j < len → isStp (f j) = true) → allStp f len 0 = true := fun h => allStp_true (fun j _ h2 => h j (by omega))
    have HB := Lib.hid hbad
    have HAll := Lib.hid hall
    clear ha hr hln hbad hall
    generalize allStp f len 0 = G at *
    go_enter Try.func52, Try.ntmps52
    go_wp2_with fail
    go_loopg [3] len (fun g s3 wr => ∃ (i : Nat), i ≤ len ∧ g = len - i ∧ s3 = .int .i64 i ∧ Below w.heap.size w wr ∧ ∀ j, j < i → isStp (f j) = true)
    case atStart => exact ⟨0, Nat.zero_le _, rfl, rfl, (by repeat' (first | with_reducible exact Below.refl _ _ | with_reducible assumption | with_reducible refine bel_drew ?_ | with_reducible refine bel_alloc ?_ _ | with_reducible refine bel_set ?_ ?_ _ | with_reducible refine bel_call ?_ (by assumption) | (dsimp only; omega) | (simp; done) | (simp; omega))), fun j h => absurd h (Nat.not_lt_zero j)⟩
    case round =>
      obtain ⟨i, hi, rfl, rfl, p, hq⟩ := hrel
      have HQ := Lib.hid hq
      clear hq
      by_cases hlt : i < len
      · obtain rfl := HA.out (by omega)
        have hr := HR.out (by omega)
        have hz2 : (i : Int) < (len : Int) := by omega
        have hw1 : IntKind.i64.wrap ((i : Int) + 1) = (i : Int) + 1 := Go.IntWalk.i64_in _ (by have := HL.out; omega)
        have rz : rb < wr.heap.size := Nat.lt_of_lt_of_le hr.lt p.size
        have x0 : wr.cell? ⟨rb, ro + i * 3, none⟩ = some (.int .i64 (f i).kind) := (p.cell (p := ⟨rb, ro + (i * 3 + 0), none⟩) hr.lt).trans (hr.c0 i hlt)
        have x1 : wr.cell? ⟨rb, ro + i * 3 + 1, none⟩ = some (.int .i64 (f i).n) := (p.cell (p := ⟨rb, ro + (i * 3 + 1), none⟩) hr.lt).trans (hr.c1 i hlt)
        have x2 : wr.cell? ⟨rb, ro + i * 3 + 2, none⟩ = some (.float .f64 (f i).x) := (p.cell (p := ⟨rb, ro + (i * 3 + 2), none⟩) hr.lt).trans (hr.c2 i hlt)
        have hB := HB.out i hlt
        have hQ : isStp (f i) = true → ∀ j, j < i + 1 → isStp (f j) = true := fun h j hj => by
          rcases Nat.lt_or_eq_of_le (Nat.le_of_lt_succ hj) with h1 | h1
          · exact HQ.out j h1
          · rw [h1]; exact h
        have c1 := fun w => CI.out (f i) w
        clear hr
        cases hs : isStp (f i) with
        | true =>
          rw [hs] at c1
          have C1 := Lib.hid c1
          have HQ2 := Lib.hid (hQ hs)
          clear hB hs hQ c1 CI
          generalize f i = o at *
          obtain ⟨kd, n, y⟩ := o
          dsimp only at *
          go_wp2_with fail
          refine (C1.out _).mono ?_
          rintro e w1 ⟨rfl, hb⟩
          have p1 : Below w.heap.size w w1 := (by repeat' (first | with_reducible exact Below.refl _ _ | with_reducible assumption | with_reducible refine bel_drew ?_ | with_reducible refine bel_alloc ?_ _ | with_reducible refine bel_set ?_ ?_ _ | with_reducible refine bel_call ?_ (by assumption) | (dsimp only; omega) | (simp; done) | (simp; omega)))
          clear hb x0 x1 x2 p rz
          go_wp2_with fail
          go_roundg (len - (i + 1))
          case measure => omega
          case rel => exact ⟨i + 1, hlt, rfl, (by first | rfl | simp), (by repeat' (first | with_reducible exact Below.refl _ _ | with_reducible assumption | with_reducible refine bel_drew ?_ | with_reducible refine bel_alloc ?_ _ | with_reducible refine bel_set ?_ ?_ _ | with_reducible refine bel_call ?_ (by assumption) | (dsimp only; omega) | (simp; done) | (simp; omega))), HQ2.out⟩
        | false =>
          rw [hs] at c1
          have C1 := Lib.hid c1
          obtain rfl := hB hs
          clear hB hs hQ c1 CI
          generalize f i = o at *
          obtain ⟨kd, n, y⟩ := o
          dsimp only at *
          go_wp2_with fail
          refine (C1.out _).mono ?_
          rintro e w1 ⟨rfl, hb⟩
          have p1 : Below w.heap.size w w1 := (by repeat' (first | with_reducible exact Below.refl _ _ | with_reducible assumption | with_reducible refine bel_drew ?_ | with_reducible refine bel_alloc ?_ _ | with_reducible refine bel_set ?_ ?_ _ | with_reducible refine bel_call ?_ (by assumption) | (dsimp only; omega) | (simp; done) | (simp; omega)))
          clear hb x0 x1 x2 p rz
          go_wp2_with fail
          go_ret
          exact ⟨rfl, (by repeat' (first | with_reducible exact Below.refl _ _ | with_reducible assumption | with_reducible refine bel_drew ?_ | with_reducible refine bel_alloc ?_ _ | with_reducible refine bel_set ?_ ?_ _ | with_reducible refine bel_call ?_ (by assumption) | (dsimp only; omega) | (simp; done) | (simp; omega)))⟩
      · have hz2 : ¬ (i : Int) < (len : Int) := by omega
        obtain rfl : i = len := by omega
        obtain rfl := HAll.out HQ.out
        go_wp2_with fail
        go_ret
        exact ⟨rfl, (by repeat' (first | with_reducible exact Below.refl _ _ | with_reducible assumption | with_reducible refine bel_drew ?_ | with_reducible refine bel_alloc ?_ _ | with_reducible refine bel_set ?_ ?_ _ | with_reducible refine bel_call ?_ (by assumption) | (dsimp only; omega) | (simp; done) | (simp; omega)))⟩
/-- the worlds of the loop -/
structure RrJ (w : World) (f : Nat → Stp) (len i bo : Nat) (q : Rc) (T : Rc × Int) (wr : World) : Prop where
  bel : Below w.heap.size w wr
  one : Blk wr bo [.int .u64 q.key, .float .f64 q.val] 66
  res : Blk wr (w.heap.size + 1) [.int .u64 0, .float .f64 0] 66
  ne : w.heap.size + 1 < bo
  ok : q.ok
  can : canon q.val = q.val
  eq : thru f (len - i) i q = T
theorem one_step {o : Stp} {q : Rc} (hs : isStp o = true) (hc : canon q.val = q.val) : one o q = if fate o q.val = 1 then (⟨nkey o q.key q.val, nval o q.val⟩, 1) else (⟨0, 0⟩, fate o q.val) := by
  unfold one thru thru
  rw [hs, if_pos rfl, hc]
set_option maxRecDepth 100000 in
set_option maxHeartbeats 4000000 in
theorem rrun_any (a : Option Addr) (len cap rb ro : Nat) (f : Nat → Stp) (r : Rc) (w : World) (hln : len ≤ 9223372036854775807) (ha : 0 < len → a = some ⟨rb, ro, none⟩) (hr : 0 < len → Stps w rb ro len f) (hok : r.ok) (T : Rc × Int) (hT : runOps f len r = T) :
    Calls Try.prog 68 #[.slice a len cap, .agg #[.int .u64 r.key, .float .f64 r.val]] w fun e w' => e = .returned (.tuple #[.agg #[.int .u64 T.1.key, .float .f64 T.1.val], .int .i64 T.2]) ∧ Below w.heap.size w w' := by
  have HR := Lib.hid hr
  have C1 : Hid (∀ w2, Below w.heap.size w w2 → Calls Try.prog 52 #[.slice a len cap] w2 fun e w' => e = .returned (.int .i64 (chk f len)) ∧ Below w2.heap.size w2 w') := Lib.hid (fun w2 hb => rcheck_any a len cap rb ro f w2 hln ha (fun h => (HR.out h).keep hb (HR.out h).lt hb.size))
  by_cases hc : chk f len = 0
  · have HS := Lib.hid (chk_ok hc).2
    have HT : Hid (thru f len 0 ⟨r.key, canon r.val⟩ = T) := Lib.hid (by unfold runOps at hT; rw [if_pos hc] at hT; exact hT)
    have C2 := Lib.hid (fun w => rcanon_any r.val w hok.2.2)
    rw [hc] at C1
    have HA := Lib.hid ha
    have HL := Lib.hid hln
    have HO := Lib.hid hok
    clear hr hln ha hok hT hc
    go_enter Try.func68, Try.ntmps68
    go_wp2_with fail
    refine (C1.out _ (by repeat' (first | with_reducible exact Below.refl _ _ | with_reducible assumption | with_reducible refine bel_drew ?_ | with_reducible refine bel_alloc ?_ _ | with_reducible refine bel_set ?_ ?_ _ | with_reducible refine bel_call ?_ (by assumption) | (dsimp only; omega) | (simp; done) | (simp; omega)))).mono ?_
    rintro e w1 ⟨rfl, hb⟩
    have q1 : Blk w1 w.heap.size [.int .u64 r.key, .float .f64 r.val] 66 := Blk.below (by repeat' (first | with_reducible assumption | (show (_ : List Value) = _; rfl) | with_reducible exact Blk.new _ _ rfl | (with_reducible refine Blk.new _ _ ?_; simp; done) | with_reducible apply Blk.set_eq | with_reducible apply Blk.other | with_reducible apply Blk.alloc | with_reducible apply Blk.drew | (simp; done) | (simp; omega))) hb
    have q2 : Blk w1 (w.heap.size + 1) [.int .u64 0, .float .f64 0] 66 := Blk.below (by repeat' (first | with_reducible assumption | (show (_ : List Value) = _; rfl) | with_reducible exact Blk.new _ _ rfl | (with_reducible refine Blk.new _ _ ?_; simp; done) | with_reducible apply Blk.set_eq | with_reducible apply Blk.other | with_reducible apply Blk.alloc | with_reducible apply Blk.drew | (simp; done) | (simp; omega))) hb
    have p1 : Below w.heap.size w w1 := (by repeat' (first | with_reducible exact Below.refl _ _ | with_reducible assumption | with_reducible refine bel_drew ?_ | with_reducible refine bel_alloc ?_ _ | with_reducible refine bel_set ?_ ?_ _ | with_reducible refine bel_call ?_ (by assumption) | (dsimp only; omega) | (simp; done) | (simp; omega)))
    clear hb
    have q1c0 : w1.cell? ⟨w.heap.size, 0, none⟩ = some (.int .u64 r.key) := q1.cell 0; have q1c1 : w1.cell? ⟨w.heap.size, 1, none⟩ = some (.float .f64 r.val) := q1.cell 1; have q1z := q1.lt
    have q2c0 : w1.cell? ⟨(w.heap.size + 1), 0, none⟩ = some (.int .u64 0) := q2.cell 0; have q2c1 : w1.cell? ⟨(w.heap.size + 1), 1, none⟩ = some (.float .f64 0) := q2.cell 1; have q2z := q2.lt
    go_wp2_with fail
    refine wp_region_ghost (NewC _ 6 7 [.int .u64 r.key, .float .f64 (canon r.val)] [.int .u64 0, .float .f64 0] 66) (by kernel_rfl) (by kernel_rfl) NewC.loc (.begin (Below.refl _ _).drew rfl) ?_
    refine lexg_val (fun _ => by rfl) ?_; apply Exists.intro; refine ⟨?_, ?_⟩; ((intro g L w' hU hT; have hT' := hT.upd (i := 0) (by decide) (by decide); obtain ⟨hc, hf⟩ := bcell hT.bel; clear hT hU; go_simp; exact rfl)); simp only [Act.put, List.setIfInBounds_toArray, List.set_cons_zero, List.set_cons_succ]
    refine lexg_val (fun _ => by rfl) ?_; apply Exists.intro; refine ⟨?_, ?_⟩; ((intro g L w' hU hT; have hT' := hT.upd (i := 1) (by decide) (by decide); obtain ⟨hc, hf⟩ := bcell hT.bel; clear hT hU; go_simp; exact rfl)); simp only [Act.put, List.setIfInBounds_toArray, List.set_cons_zero, List.set_cons_succ]
    refine lexg_val (fun _ => by rfl) ?_; apply Exists.intro; refine ⟨?_, ?_⟩; ((intro g L w' hU hT; have hT' := hT.upd (i := 2) (by decide) (by decide); obtain ⟨hc, hf⟩ := bcell hT.bel; clear hT hU; go_simp; exact rfl)); simp only [Act.put, List.setIfInBounds_toArray, List.set_cons_zero, List.set_cons_succ]
    refine lexg_val (fun _ => by rfl) ?_; apply Exists.intro; refine ⟨?_, ?_⟩; ((intro g L w' hU hT; have hT' := hT.upd (i := 3) (by decide) (by decide); obtain ⟨hc, hf⟩ := bcell hT.bel; clear hT hU; go_simp; exact rfl)); simp only [Act.put, List.setIfInBounds_toArray, List.set_cons_zero, List.set_cons_succ]
    refine lexg_val (fun _ => by rfl) ?_; apply Exists.intro; refine ⟨?_, ?_⟩; ((intro g L w' hU hT; have hT' := hT.upd (i := 4) (by decide) (by decide); obtain ⟨hc, hf⟩ := bcell hT.bel; clear hT hU; go_simp; first | exact rfl | exact (C2.out _).mono fun e w'' ⟨he, hb⟩ => ⟨he, hb ▸ hT'⟩)); simp only [Act.put, List.setIfInBounds_toArray, List.set_cons_zero, List.set_cons_succ]
    refine lexg_val (fun _ => by rfl) ?_; apply Exists.intro; refine ⟨?_, ?_⟩; ((intro g L w' hU hT; have hT' := hT.upd (i := 5) (by decide) (by decide); obtain ⟨hc, hf⟩ := bcell hT.bel; clear hT hU; go_simp; exact rfl)); simp only [Act.put, List.setIfInBounds_toArray, List.set_cons_zero, List.set_cons_succ]
    refine lexg_alloc (fun b => .pointer (some ⟨b, 0, none⟩)) (fun _ => by rfl) ?_ ?_; ((intro g L w' hU hT; refine ⟨w'.heap.size, _, ?_, hT.alloc (hU.closed.no (j := 7) rfl (by kernel_rfl) hU.not) (by decide)⟩; clear hT hU; go_simp)); simp only [Nat.reduceAdd]; simp only [Act.put, List.setIfInBounds_toArray, List.set_cons_zero, List.set_cons_succ]
    refine lexg_op (fun _ => by rfl) ?_; refine ⟨fun _ => undef, ?_, known_const _ _, ?_⟩; ((intro g L w' hU hT; have hK : L 6 = true := hU.yes (m := 6) rfl (by kernel_rfl); have hL := hU.not; have hT' := hT.store hK hL rfl; have hB := (hT.blk hK).2; rw [hL, if_neg (by decide)] at hB; have zc0 := hB.cell 0; have zf0 := hB.free 0; have zc1 := hB.cell 1; have zf1 := hB.free 1; simp only [List.getElem?_cons_zero, List.getElem?_cons_succ] at zc0 zc1; clear hT hU hK; go_simp; first | exact hT' | exact ⟨hT', rfl⟩)); simp only [Act.put]
    refine lexg_nil ?_; intro g w3 hT; have bel_w3 := hT.bel; have n_w3 := (hT.blk rfl).1; have q_w3 := (hT.blk rfl).2; clear hT; rw [if_pos rfl] at q_w3; dsimp only; generalize g 6 = b3 at *; clear g
    have r2 := q2.below bel_w3
    have p3 : Below w.heap.size w w3 := (by repeat' (first | with_reducible exact Below.refl _ _ | with_reducible assumption | with_reducible refine bel_drew ?_ | with_reducible refine bel_alloc ?_ _ | with_reducible refine bel_set ?_ ?_ _ | with_reducible refine bel_call ?_ (by assumption) | (dsimp only; omega) | (simp; done) | (simp; omega)))
    have hne : w.heap.size + 1 < b3 := Nat.lt_of_lt_of_le q2z n_w3
    clear q1 q1c0 q1c1 q1z q2 q2c0 q2c1 q2z n_w3 bel_w3 C1 C2 p1
    go_wp2_with fail
    go_loopg [7] len (fun g s7 wr => ∃ (i : Nat) (q : Rc), i ≤ len ∧ g = len - i ∧ s7 = .int .i64 i ∧ RrJ w f len i b3 q T wr)
    case atStart =>
      exact ⟨0, ⟨r.key, canon r.val⟩, Nat.zero_le _, rfl, rfl, ⟨p3, q_w3, r2, hne, ⟨HO.out.1, HO.out.2.1, Fl.canon_lt HO.out.2.2⟩, Fl.canon_canon _, HT.out⟩⟩
    case round =>
      obtain ⟨i, q, hi, rfl, rfl, hJ⟩ := hrel
      clear HT HO p3 q_w3 r2 hne
      have p := hJ.bel
      have q1 := hJ.one
      have q2 := hJ.res
      have hne := hJ.ne
      have q1c0 : wr.cell? ⟨b3, 0, none⟩ = some (.int .u64 q.key) := q1.cell 0; have q1c1 : wr.cell? ⟨b3, 1, none⟩ = some (.float .f64 q.val) := q1.cell 1; have q1z := q1.lt
      have q2c0 : wr.cell? ⟨(w.heap.size + 1), 0, none⟩ = some (.int .u64 0) := q2.cell 0; have q2c1 : wr.cell? ⟨(w.heap.size + 1), 1, none⟩ = some (.float .f64 0) := q2.cell 1; have q2z := q2.lt
      by_cases hlt : i < len
      · obtain rfl := HA.out (by omega)
        have hr := HR.out (by omega)
        have hs := HS.out i hlt
        have hz2 : (i : Int) < (len : Int) := by omega
        have hw1 : IntKind.i64.wrap ((i : Int) + 1) = (i : Int) + 1 := Go.IntWalk.i64_in _ (by have := HL.out; omega)
        have rz : rb < wr.heap.size := Nat.lt_of_lt_of_le hr.lt p.size
        have x0 : wr.cell? ⟨rb, ro + i * 3, none⟩ = some (.int .i64 (f i).kind) := (p.cell (p := ⟨rb, ro + (i * 3 + 0), none⟩) hr.lt).trans (hr.c0 i hlt)
        have x1 : wr.cell? ⟨rb, ro + i * 3 + 1, none⟩ = some (.int .i64 (f i).n) := (p.cell (p := ⟨rb, ro + (i * 3 + 1), none⟩) hr.lt).trans (hr.c1 i hlt)
        have x2 : wr.cell? ⟨rb, ro + i * 3 + 2, none⟩ = some (.float .f64 (f i).x) := (p.cell (p := ⟨rb, ro + (i * 3 + 2), none⟩) hr.lt).trans (hr.c2 i hlt)
        have ho := hr.ok i hlt
        have hth : thru f (len - i) i q = if fate (f i) q.val = 1 then thru f (len - (i + 1)) (i + 1) ⟨nkey (f i) q.key q.val, nval (f i) q.val⟩ else (⟨0, 0⟩, fate (f i) q.val) := by
          rw [show len - i = (len - (i + 1)) + 1 by omega]
          rfl
        have a1 := fun w => rone_any (f i) q w ho hJ.ok
        rw [one_step hs hJ.can] at a1
        have hth2 := hJ.eq
        rw [hth] at hth2
        have nk := nkey_ok (x := q.val) hs hJ.ok.1 hJ.ok.2.1
        have nl := nval_lt (o := f i) hJ.ok.2.2
        have nc := nval_canon (o := f i) hJ.can
        have NK := Lib.hid (And.intro nk (And.intro nl nc))
        clear hr hs hth hJ nk nl nc ho
        generalize f i = o at *
        obtain ⟨kd, n, y⟩ := o
        dsimp only at x0 x1 x2 a1
        obtain ⟨qk, qv⟩ := q
        dsimp only at *
        by_cases hf : fate ⟨kd, n, y⟩ qv = 1
        · rw [if_pos hf] at hth2 a1
          dsimp only at a1
          have A3 := Lib.hid a1
          have HT := Lib.hid hth2
          clear a1 hth2 hf
          generalize nkey ⟨kd, n, y⟩ qk qv = k2 at *
          generalize nval ⟨kd, n, y⟩ qv = v2 at *
          go_wp2_with fail
          refine wp_region_ghost (NewC _ 9 10 [.int .u64 k2, .float .f64 v2] [.int .u64 0, .float .f64 0] 66) (by kernel_rfl) (by kernel_rfl) NewC.loc (.begin (Below.refl _ _).drew rfl) ?_
          refine lexg_val (fun _ => by rfl) ?_; apply Exists.intro; refine ⟨?_, ?_⟩; ((intro g L w' hU hT; have hT' := hT.upd (i := 0) (by decide) (by decide); obtain ⟨hc, hf⟩ := bcell hT.bel; clear hT hU; go_simp; exact rfl)); simp only [Act.put, List.setIfInBounds_toArray, List.set_cons_zero, List.set_cons_succ]
          refine lexg_val (fun _ => by rfl) ?_; apply Exists.intro; refine ⟨?_, ?_⟩; ((intro g L w' hU hT; have hT' := hT.upd (i := 1) (by decide) (by decide); obtain ⟨hc, hf⟩ := bcell hT.bel; clear hT hU; go_simp; exact rfl)); simp only [Act.put, List.setIfInBounds_toArray, List.set_cons_zero, List.set_cons_succ]
          refine lexg_val (fun _ => by rfl) ?_; apply Exists.intro; refine ⟨?_, ?_⟩; ((intro g L w' hU hT; have hT' := hT.upd (i := 2) (by decide) (by decide); obtain ⟨hc, hf⟩ := bcell hT.bel; clear hT hU; go_simp; exact rfl)); simp only [Act.put, List.setIfInBounds_toArray, List.set_cons_zero, List.set_cons_succ]
          refine lexg_val (fun _ => by rfl) ?_; apply Exists.intro; refine ⟨?_, ?_⟩; ((intro g L w' hU hT; have hT' := hT.upd (i := 3) (by decide) (by decide); obtain ⟨hc, hf⟩ := bcell hT.bel; clear hT hU; go_simp; exact rfl)); simp only [Act.put, List.setIfInBounds_toArray, List.set_cons_zero, List.set_cons_succ]
          refine lexg_val (fun _ => by rfl) ?_; apply Exists.intro; refine ⟨?_, ?_⟩; ((intro g L w' hU hT; have hT' := hT.upd (i := 4) (by decide) (by decide); obtain ⟨hc, hf⟩ := bcell hT.bel; clear hT hU; go_simp; exact rfl)); simp only [Act.put, List.setIfInBounds_toArray, List.set_cons_zero, List.set_cons_succ]
          refine lexg_val (fun _ => by rfl) ?_; apply Exists.intro; refine ⟨?_, ?_⟩; ((intro g L w' hU hT; have hT' := hT.upd (i := 5) (by decide) (by decide); obtain ⟨hc, hf⟩ := bcell hT.bel; clear hT hU; go_simp; first | exact rfl | exact (A3.out _).mono fun e w'' ⟨he, hb⟩ => ⟨he, hT'.next hb⟩)); simp only [Act.put, List.setIfInBounds_toArray, List.set_cons_zero, List.set_cons_succ]
          refine lexg_val (fun _ => by rfl) ?_; apply Exists.intro; refine ⟨?_, ?_⟩; ((intro g L w' hU hT; have hT' := hT.upd (i := 6) (by decide) (by decide); obtain ⟨hc, hf⟩ := bcell hT.bel; clear hT hU; go_simp; exact rfl)); simp only [Act.put, List.setIfInBounds_toArray, List.set_cons_zero, List.set_cons_succ]
          refine lexg_val (fun _ => by rfl) ?_; apply Exists.intro; refine ⟨?_, ?_⟩; ((intro g L w' hU hT; have hT' := hT.upd (i := 7) (by decide) (by decide); obtain ⟨hc, hf⟩ := bcell hT.bel; clear hT hU; go_simp; exact rfl)); simp only [Act.put, List.setIfInBounds_toArray, List.set_cons_zero, List.set_cons_succ]
          refine lexg_val (fun _ => by rfl) ?_; apply Exists.intro; refine ⟨?_, ?_⟩; ((intro g L w' hU hT; have hT' := hT.upd (i := 8) (by decide) (by decide); obtain ⟨hc, hf⟩ := bcell hT.bel; clear hT hU; go_simp; exact rfl)); simp only [Act.put, List.setIfInBounds_toArray, List.set_cons_zero, List.set_cons_succ]
          refine lexg_alloc (fun b => .pointer (some ⟨b, 0, none⟩)) (fun _ => by rfl) ?_ ?_; ((intro g L w' hU hT; refine ⟨w'.heap.size, _, ?_, hT.alloc (hU.closed.no (j := 10) rfl (by kernel_rfl) hU.not) (by decide)⟩; clear hT hU; go_simp)); simp only [Nat.reduceAdd]; simp only [Act.put, List.setIfInBounds_toArray, List.set_cons_zero, List.set_cons_succ]
          refine lexg_op (fun _ => by rfl) ?_; refine ⟨fun _ => undef, ?_, known_const _ _, ?_⟩; ((intro g L w' hU hT; have hK : L 9 = true := hU.yes (m := 9) rfl (by kernel_rfl); have hL := hU.not; have hT' := hT.store hK hL rfl; have hB := (hT.blk hK).2; rw [hL, if_neg (by decide)] at hB; have zc0 := hB.cell 0; have zf0 := hB.free 0; have zc1 := hB.cell 1; have zf1 := hB.free 1; simp only [List.getElem?_cons_zero, List.getElem?_cons_succ] at zc0 zc1; clear hT hU hK; go_simp; first | exact hT' | exact ⟨hT', rfl⟩)); simp only [Act.put]
          refine lexg_val (fun _ => by rfl) ?_; apply Exists.intro; refine ⟨?_, ?_⟩; ((intro g L w' hU hT; have hT' := hT.upd (i := 11) (by decide) (by decide); obtain ⟨hc, hf⟩ := bcell hT.bel; clear hT hU; go_simp; exact rfl)); simp only [Act.put, List.setIfInBounds_toArray, List.set_cons_zero, List.set_cons_succ]
          refine lexg_nil ?_; intro g w4 hT; have bel_w4 := hT.bel; have n_w4 := (hT.blk rfl).1; have q_w4 := (hT.blk rfl).2; clear hT; rw [if_pos rfl] at q_w4; dsimp only; generalize g 9 = b4 at *; clear g
          have r1 := q1.below bel_w4
          have r2 := q2.below bel_w4
          have p4 : Below w.heap.size w w4 := (by repeat' (first | with_reducible exact Below.refl _ _ | with_reducible assumption | with_reducible refine bel_drew ?_ | with_reducible refine bel_alloc ?_ _ | with_reducible refine bel_set ?_ ?_ _ | with_reducible refine bel_call ?_ (by assumption) | (dsimp only; omega) | (simp; done) | (simp; omega)))
          clear q1 q1c0 q1c1 q1z q2 q2c0 q2c1 q2z n_w4 bel_w4 A3 p x0 x1 x2 rz
          have r1c0 : w4.cell? ⟨b3, 0, none⟩ = some (.int .u64 qk) := r1.cell 0; have r1c1 : w4.cell? ⟨b3, 1, none⟩ = some (.float .f64 qv) := r1.cell 1; have r1z := r1.lt
          have q_w4c0 : w4.cell? ⟨b4, 0, none⟩ = some (.int .u64 k2) := q_w4.cell 0; have q_w4c1 : w4.cell? ⟨b4, 1, none⟩ = some (.float .f64 v2) := q_w4.cell 1; have q_w4z := q_w4.lt
          have r1f0 := r1.free 0
          have r1f1 := r1.free 1
          go_wp2_with fail
          go_roundg (len - (i + 1))
          case measure => omega
          case rel =>
            refine ⟨i + 1, ⟨k2, v2⟩, hlt, rfl, (by first | rfl | simp), ⟨(by repeat' (first | with_reducible exact Below.refl _ _ | with_reducible assumption | with_reducible refine bel_drew ?_ | with_reducible refine bel_alloc ?_ _ | with_reducible refine bel_set ?_ ?_ _ | with_reducible refine bel_call ?_ (by assumption) | (dsimp only; omega) | (simp; done) | (simp; omega))), ?_, ?_, hne, ⟨NK.out.1.1, NK.out.1.2, NK.out.2.1⟩, NK.out.2.2, HT.out⟩⟩
            · exact (by repeat' (first | with_reducible assumption | (show (_ : List Value) = _; rfl) | with_reducible exact Blk.new _ _ rfl | (with_reducible refine Blk.new _ _ ?_; simp; done) | with_reducible apply Blk.set_eq | with_reducible apply Blk.other | with_reducible apply Blk.alloc | with_reducible apply Blk.drew | (simp; done) | (simp; omega)))
            · exact (by repeat' (first | with_reducible assumption | (show (_ : List Value) = _; rfl) | with_reducible exact Blk.new _ _ rfl | (with_reducible refine Blk.new _ _ ?_; simp; done) | with_reducible apply Blk.set_eq | with_reducible apply Blk.other | with_reducible apply Blk.alloc | with_reducible apply Blk.drew | (simp; done) | (simp; omega)))
        · rw [if_neg hf] at hth2 a1
          dsimp only at a1
          have A3 := Lib.hid a1
          have HT := Lib.hid hth2
          have hf2 : (fate ⟨kd, n, y⟩ qv != 1) = true := by simpa using hf
          clear a1 hth2 hf
          generalize fate ⟨kd, n, y⟩ qv = z at *
          go_wp2_with fail
          refine wp_region_ghost (NewC _ 9 10 [.int .u64 0, .float .f64 0] [.int .u64 0, .float .f64 0] 66) (by kernel_rfl) (by kernel_rfl) NewC.loc (.begin (Below.refl _ _).drew rfl) ?_
          refine lexg_val (fun _ => by rfl) ?_; apply Exists.intro; refine ⟨?_, ?_⟩; ((intro g L w' hU hT; have hT' := hT.upd (i := 0) (by decide) (by decide); obtain ⟨hc, hf⟩ := bcell hT.bel; clear hT hU; go_simp; exact rfl)); simp only [Act.put, List.setIfInBounds_toArray, List.set_cons_zero, List.set_cons_succ]
          refine lexg_val (fun _ => by rfl) ?_; apply Exists.intro; refine ⟨?_, ?_⟩; ((intro g L w' hU hT; have hT' := hT.upd (i := 1) (by decide) (by decide); obtain ⟨hc, hf⟩ := bcell hT.bel; clear hT hU; go_simp; exact rfl)); simp only [Act.put, List.setIfInBounds_toArray, List.set_cons_zero, List.set_cons_succ]
          refine lexg_val (fun _ => by rfl) ?_; apply Exists.intro; refine ⟨?_, ?_⟩; ((intro g L w' hU hT; have hT' := hT.upd (i := 2) (by decide) (by decide); obtain ⟨hc, hf⟩ := bcell hT.bel; clear hT hU; go_simp; exact rfl)); simp only [Act.put, List.setIfInBounds_toArray, List.set_cons_zero, List.set_cons_succ]
          refine lexg_val (fun _ => by rfl) ?_; apply Exists.intro; refine ⟨?_, ?_⟩; ((intro g L w' hU hT; have hT' := hT.upd (i := 3) (by decide) (by decide); obtain ⟨hc, hf⟩ := bcell hT.bel; clear hT hU; go_simp; exact rfl)); simp only [Act.put, List.setIfInBounds_toArray, List.set_cons_zero, List.set_cons_succ]
          refine lexg_val (fun _ => by rfl) ?_; apply Exists.intro; refine ⟨?_, ?_⟩; ((intro g L w' hU hT; have hT' := hT.upd (i := 4) (by decide) (by decide); obtain ⟨hc, hf⟩ := bcell hT.bel; clear hT hU; go_simp; exact rfl)); simp only [Act.put, List.setIfInBounds_toArray, List.set_cons_zero, List.set_cons_succ]
          refine lexg_val (fun _ => by rfl) ?_; apply Exists.intro; refine ⟨?_, ?_⟩; ((intro g L w' hU hT; have hT' := hT.upd (i := 5) (by decide) (by decide); obtain ⟨hc, hf⟩ := bcell hT.bel; clear hT hU; go_simp; first | exact rfl | exact (A3.out _).mono fun e w'' ⟨he, hb⟩ => ⟨he, hT'.next hb⟩)); simp only [Act.put, List.setIfInBounds_toArray, List.set_cons_zero, List.set_cons_succ]
          refine lexg_val (fun _ => by rfl) ?_; apply Exists.intro; refine ⟨?_, ?_⟩; ((intro g L w' hU hT; have hT' := hT.upd (i := 6) (by decide) (by decide); obtain ⟨hc, hf⟩ := bcell hT.bel; clear hT hU; go_simp; exact rfl)); simp only [Act.put, List.setIfInBounds_toArray, List.set_cons_zero, List.set_cons_succ]
          refine lexg_val (fun _ => by rfl) ?_; apply Exists.intro; refine ⟨?_, ?_⟩; ((intro g L w' hU hT; have hT' := hT.upd (i := 7) (by decide) (by decide); obtain ⟨hc, hf⟩ := bcell hT.bel; clear hT hU; go_simp; exact rfl)); simp only [Act.put, List.setIfInBounds_toArray, List.set_cons_zero, List.set_cons_succ]
          refine lexg_val (fun _ => by rfl) ?_; apply Exists.intro; refine ⟨?_, ?_⟩; ((intro g L w' hU hT; have hT' := hT.upd (i := 8) (by decide) (by decide); obtain ⟨hc, hf⟩ := bcell hT.bel; clear hT hU; go_simp; exact rfl)); simp only [Act.put, List.setIfInBounds_toArray, List.set_cons_zero, List.set_cons_succ]
          refine lexg_alloc (fun b => .pointer (some ⟨b, 0, none⟩)) (fun _ => by rfl) ?_ ?_; ((intro g L w' hU hT; refine ⟨w'.heap.size, _, ?_, hT.alloc (hU.closed.no (j := 10) rfl (by kernel_rfl) hU.not) (by decide)⟩; clear hT hU; go_simp)); simp only [Nat.reduceAdd]; simp only [Act.put, List.setIfInBounds_toArray, List.set_cons_zero, List.set_cons_succ]
          refine lexg_op (fun _ => by rfl) ?_; refine ⟨fun _ => undef, ?_, known_const _ _, ?_⟩; ((intro g L w' hU hT; have hK : L 9 = true := hU.yes (m := 9) rfl (by kernel_rfl); have hL := hU.not; have hT' := hT.store hK hL rfl; have hB := (hT.blk hK).2; rw [hL, if_neg (by decide)] at hB; have zc0 := hB.cell 0; have zf0 := hB.free 0; have zc1 := hB.cell 1; have zf1 := hB.free 1; simp only [List.getElem?_cons_zero, List.getElem?_cons_succ] at zc0 zc1; clear hT hU hK; go_simp; first | exact hT' | exact ⟨hT', rfl⟩)); simp only [Act.put]
          refine lexg_val (fun _ => by rfl) ?_; apply Exists.intro; refine ⟨?_, ?_⟩; ((intro g L w' hU hT; have hT' := hT.upd (i := 11) (by decide) (by decide); obtain ⟨hc, hf⟩ := bcell hT.bel; clear hT hU; go_simp; exact rfl)); simp only [Act.put, List.setIfInBounds_toArray, List.set_cons_zero, List.set_cons_succ]
          refine lexg_nil ?_; intro g w4 hT; have bel_w4 := hT.bel; have n_w4 := (hT.blk rfl).1; have q_w4 := (hT.blk rfl).2; clear hT; rw [if_pos rfl] at q_w4; dsimp only; generalize g 9 = b4 at *; clear g
          have r2 := q2.below bel_w4
          have p4 : Below w.heap.size w w4 := (by repeat' (first | with_reducible exact Below.refl _ _ | with_reducible assumption | with_reducible refine bel_drew ?_ | with_reducible refine bel_alloc ?_ _ | with_reducible refine bel_set ?_ ?_ _ | with_reducible refine bel_call ?_ (by assumption) | (dsimp only; omega) | (simp; done) | (simp; omega)))
          clear q1 q1c0 q1c1 q1z q2 q2c0 q2c1 q2z n_w4 bel_w4 A3 p x0 x1 x2 rz q_w4
          have r2c0 : w4.cell? ⟨(w.heap.size + 1), 0, none⟩ = some (.int .u64 0) := r2.cell 0; have r2c1 : w4.cell? ⟨(w.heap.size + 1), 1, none⟩ = some (.float .f64 0) := r2.cell 1; have r2z := r2.lt
          have r2f0 := r2.free 0
          have r2f1 := r2.free 1
          go_wp2_with fail
          obtain rfl := HT.out
          refine ret_cell_tmp [.int .u64 0, .float .f64 0] Try.results68 rfl (Try.isAgg66 _) (Try.sizeOf66 _) (t := 66) ?_ rfl ?_; next => (exact (by repeat' (first | with_reducible assumption | (show (_ : List Value) = _; rfl) | with_reducible exact Blk.new _ _ rfl | (with_reducible refine Blk.new _ _ ?_; simp; done) | with_reducible apply Blk.set_eq | with_reducible apply Blk.other | with_reducible apply Blk.alloc | with_reducible apply Blk.drew | (simp; done) | (simp; omega))))
          exact ⟨rfl, (by repeat' (first | with_reducible exact Below.refl _ _ | with_reducible assumption | with_reducible refine bel_drew ?_ | with_reducible refine bel_alloc ?_ _ | with_reducible refine bel_set ?_ ?_ _ | with_reducible refine bel_call ?_ (by assumption) | (dsimp only; omega) | (simp; done) | (simp; omega)))⟩
      · have hz2 : ¬ (i : Int) < (len : Int) := by omega
        have HT := Lib.hid hJ.eq
        clear hJ
        obtain rfl : i = len := by omega
        have q2f0 := q2.free 0
        have q2f1 := q2.free 1
        go_wp2_with fail
        have hT2 := HT.out
        rw [Nat.sub_self] at hT2
        obtain rfl : (q, 1) = T := hT2
        refine ret_cell_tmp [.int .u64 q.key, .float .f64 q.val] Try.results68 rfl (Try.isAgg66 _) (Try.sizeOf66 _) (t := 66) ?_ rfl ?_; next => (exact (by repeat' (first | with_reducible assumption | (show (_ : List Value) = _; rfl) | with_reducible exact Blk.new _ _ rfl | (with_reducible refine Blk.new _ _ ?_; simp; done) | with_reducible apply Blk.set_eq | with_reducible apply Blk.other | with_reducible apply Blk.alloc | with_reducible apply Blk.drew | (simp; done) | (simp; omega))))
        exact ⟨rfl, (by repeat' (first | with_reducible exact Below.refl _ _ | with_reducible assumption | with_reducible refine bel_drew ?_ | with_reducible refine bel_alloc ?_ _ | with_reducible refine bel_set ?_ ?_ _ | with_reducible refine bel_call ?_ (by assumption) | (dsimp only; omega) | (simp; done) | (simp; omega)))⟩
  · have hT2 : (⟨0, 0⟩, 0) = T := by unfold runOps at hT; rw [if_neg hc] at hT; exact hT
    subst hT2
    have hc2 : (chk f len != 0) = true := by simpa using hc
    generalize chk f len = c at *
    clear hr hln ha hok hT HR hc
    go_enter Try.func68, Try.ntmps68
    go_wp2_with fail
    refine (C1.out _ (by repeat' (first | with_reducible exact Below.refl _ _ | with_reducible assumption | with_reducible refine bel_drew ?_ | with_reducible refine bel_alloc ?_ _ | with_reducible refine bel_set ?_ ?_ _ | with_reducible refine bel_call ?_ (by assumption) | (dsimp only; omega) | (simp; done) | (simp; omega)))).mono ?_
    rintro e w1 ⟨rfl, hb⟩
    have q2 : Blk w1 (w.heap.size + 1) [.int .u64 0, .float .f64 0] 66 := Blk.below (by repeat' (first | with_reducible assumption | (show (_ : List Value) = _; rfl) | with_reducible exact Blk.new _ _ rfl | (with_reducible refine Blk.new _ _ ?_; simp; done) | with_reducible apply Blk.set_eq | with_reducible apply Blk.other | with_reducible apply Blk.alloc | with_reducible apply Blk.drew | (simp; done) | (simp; omega))) hb
    have p1 : Below w.heap.size w w1 := (by repeat' (first | with_reducible exact Below.refl _ _ | with_reducible assumption | with_reducible refine bel_drew ?_ | with_reducible refine bel_alloc ?_ _ | with_reducible refine bel_set ?_ ?_ _ | with_reducible refine bel_call ?_ (by assumption) | (dsimp only; omega) | (simp; done) | (simp; omega)))
    clear hb
    have q2c0 : w1.cell? ⟨(w.heap.size + 1), 0, none⟩ = some (.int .u64 0) := q2.cell 0; have q2c1 : w1.cell? ⟨(w.heap.size + 1), 1, none⟩ = some (.float .f64 0) := q2.cell 1; have q2z := q2.lt
    have q2f0 := q2.free 0
    have q2f1 := q2.free 1
    go_wp2_with fail
    refine ret_cell_tmp [.int .u64 0, .float .f64 0] Try.results68 rfl (Try.isAgg66 _) (Try.sizeOf66 _) (t := 66) ?_ rfl ?_; next => (exact (by repeat' (first | with_reducible assumption | (show (_ : List Value) = _; rfl) | with_reducible exact Blk.new _ _ rfl | (with_reducible refine Blk.new _ _ ?_; simp; done) | with_reducible apply Blk.set_eq | with_reducible apply Blk.other | with_reducible apply Blk.alloc | with_reducible apply Blk.drew | (simp; done) | (simp; omega))))
    exact ⟨rfl, (by repeat' (first | with_reducible exact Below.refl _ _ | with_reducible assumption | with_reducible refine bel_drew ?_ | with_reducible refine bel_alloc ?_ _ | with_reducible refine bel_set ?_ ?_ _ | with_reducible refine bel_call ?_ (by assumption) | (dsimp only; omega) | (simp; done) | (simp; omega)))⟩
set_option maxRecDepth 100000 in
set_option maxHeartbeats 1000000 in
theorem rkey_any (a : Option Addr) (len cap rb ro : Nat) (f : Nat → Stp) (r : Rc) (w : World) (hln : len ≤ 9223372036854775807) (ha : 0 < len → a = some ⟨rb, ro, none⟩) (hr : 0 < len → Stps w rb ro len f) (hok : r.ok) :
    Calls Try.prog 55 #[.slice a len cap, .agg #[.int .u64 r.key, .float .f64 r.val]] w fun e w' => e = .returned (.tuple #[.int .u64 (runOps f len r).1.key, .bool ((runOps f len r).2 == 1)]) ∧ Below w.heap.size w w' := by
  have HR := Lib.hid hr
  have C1 : Hid (∀ w2, Below w.heap.size w w2 → Calls Try.prog 68 #[.slice a len cap, .agg #[.int .u64 r.key, .float .f64 r.val]] w2 fun e w' => e = .returned (.tuple #[.agg #[.int .u64 (runOps f len r).1.key, .float .f64 (runOps f len r).1.val], .int .i64 (runOps f len r).2]) ∧ Below w2.heap.size w2 w') :=
    Lib.hid (fun w2 hb => rrun_any a len cap rb ro f r w2 hln ha (fun h => (HR.out h).keep hb (HR.out h).lt hb.size) hok _ rfl)
  generalize runOps f len r = T at *
  obtain ⟨⟨tk, tv⟩, tf⟩ := T
  clear hr hln ha hok HR
  dsimp only at *
  go_enter Try.func55, Try.ntmps55
  go_wp2_with fail
  refine (C1.out _ (by repeat' (first | with_reducible exact Below.refl _ _ | with_reducible assumption | with_reducible refine bel_drew ?_ | with_reducible refine bel_alloc ?_ _ | with_reducible refine bel_set ?_ ?_ _ | with_reducible refine bel_call ?_ (by assumption) | (dsimp only; omega) | (simp; done) | (simp; omega)))).mono ?_
  rintro e w1 ⟨rfl, hb⟩
  have p1 : Below w.heap.size w w1 := (by repeat' (first | with_reducible exact Below.refl _ _ | with_reducible assumption | with_reducible refine bel_drew ?_ | with_reducible refine bel_alloc ?_ _ | with_reducible refine bel_set ?_ ?_ _ | with_reducible refine bel_call ?_ (by assumption) | (dsimp only; omega) | (simp; done) | (simp; omega)))
  clear hb
  go_wp2_with fail
  go_ret2
  exact ⟨rfl, (by repeat' (first | with_reducible exact Below.refl _ _ | with_reducible assumption | with_reducible refine bel_drew ?_ | with_reducible refine bel_alloc ?_ _ | with_reducible refine bel_set ?_ ?_ _ | with_reducible refine bel_call ?_ (by assumption) | (dsimp only; omega) | (simp; done) | (simp; omega)))⟩
end Go.Proofs.Ytbckfoldjlgabaa
