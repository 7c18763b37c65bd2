/- WALK of OpsChain. -/
import Derived.Test.YtgcbjpdmnlanoaaOpsU
import Derived.Test.YtgcbjpdmnlanoaaRegionG
namespace Go.Proofs.Ytgcbjpdmnlanoaa
open Go.RowKit
open Fl (nan key canon)
theorem setAll_other {b b' : Nat} {t : TypeId} {ds : List Value} (hne : b' ≠ b) : ∀ (cs : List Value) (i : Nat) {w : World}, Blk w b' ds t → Blk (setAll w b i cs) b' ds t
  | [], _, _, h => h
  | _ :: cs, i, _, h => setAll_other hne cs (i + 1) (h.other (a := ⟨b, i, none⟩) hne _)
/-- the worlds of 'x, g = f(.., x)' where x lies in the block b: it holds cs behind the store j, zs ahead of it; whatever else lay in a block lies there still -/
structure SetC (w W : World) (b j : Nat) (cs zs : List Value) (t : TypeId) (L : Nat → Bool) (w' : World) : Prop where
  bel : Below w.heap.size w w'
  blk : Blk w' b (if L j then cs else zs) t
  oth : ∀ b' ds t', b' ≠ b → Blk W b' ds t' → Blk w' b' ds t'
section
variable {w W w' : World} {b j : Nat} {cs zs : List Value} {t : TypeId} {L : Nat → Bool}
theorem SetC.upd (h : SetC w W b j cs zs t L w') {k : Nat} (hk : k ≠ j) : SetC w W b j cs zs t (upd L k) w' :=
  ⟨h.bel, by rw [upd_other L (Ne.symm hk)]; exact h.blk, h.oth⟩
theorem SetC.next {w'' : World} (h : SetC w W b j cs zs t L w') (hb : Below w'.heap.size w' w'') : SetC w W b j cs zs t L w'' :=
  ⟨bel_call h.bel hb, h.blk.below hb, fun b' ds t' h1 h2 => (h.oth b' ds t' h1 h2).below hb⟩
theorem SetC.store (h : SetC w W b j cs zs t L w') (hL : L j = false) (hb : w.heap.size ≤ b) (hl : cs.length = zs.length) : SetC w W b j cs zs t (Go.Proofs.Ytgcbjpdmnlanoaa.upd L j) (setAll w' b 0 cs) := by
  have h2 := h.blk
  rw [hL, if_neg (by decide)] at h2
  refine ⟨setAll_below hb cs 0 h.bel, ?_, fun b' ds t' h3 h4 => setAll_other h3 cs 0 (h.oth b' ds t' h3 h4)⟩
  rw [upd_same, if_pos rfl]
  exact Blk.setAll cs zs [] h2 hl
theorem SetC.begin (n : Nat) (hj : j < n) (h : Below w.heap.size w W) (hb : Blk W b zs t) : SetC w W b j cs zs t (fun k => decide (n ≤ k)) W.drew :=
  ⟨bel_drew h, by rw [decide_eq_false (by omega), if_neg (by decide)]; exact hb.drew, fun _ _ _ _ h => h.drew⟩
end
theorem pick_at (z : Int) (len : Nat) (h : len ≤ 8) : ∃ k : Nat, k ≤ len ∧ wrap64 ((IntKind.u64.wrap z).tmod ((len : Int) + 1)) = (k : Int) := by
  have h0 : 0 ≤ IntKind.u64.wrap z := by
    show 0 ≤ z % 18446744073709551616
    omega
  generalize IntKind.u64.wrap z = u at *
  have h1 := Int.tmod_eq_emod_of_nonneg (b := (len : Int) + 1) h0
  have h2 := Int.emod_nonneg u (show (len : Int) + 1 ≠ 0 by omega)
  have h3 := Int.emod_lt_of_pos u (show (0 : Int) < (len : Int) + 1 by omega)
  rw [h1]
  refine ⟨(u % ((len : Int) + 1)).toNat, by omega, ?_⟩
  generalize u % ((len : Int) + 1) = m at *
  unfold wrap64
  omega
theorem Stps.take {w : World} {b o len k : Nat} {f : Nat → Stp} (h : Stps w b o len f) (hk : k ≤ len) : Stps w b o k f :=
  ⟨h.lt, fun i hi => h.ok i (by omega), fun i hi => h.c0 i (by omega), fun i hi => h.c1 i (by omega), fun i hi => h.c2 i (by omega)⟩
theorem Stps.drop {w : World} {b o len : Nat} {f : Nat → Stp} (h : Stps w b o len f) {k : Nat} (hk : k ≤ len) : Stps w b (o + k * 3) (len - k) (fun j => f (j + k)) :=
  ⟨h.lt, fun i hi => h.ok (i + k) (by omega), fun i hi => by rw [show o + k * 3 + (i * 3 + 0) = o + ((i + k) * 3 + 0) by omega]; exact h.c0 (i + k) (by omega),
    fun i hi => by rw [show o + k * 3 + (i * 3 + 1) = o + ((i + k) * 3 + 1) by omega]; exact h.c1 (i + k) (by omega), fun i hi => by rw [show o + k * 3 + (i * 3 + 2) = o + ((i + k) * 3 + 2) by omega]; exact h.c2 (i + k) (by omega)⟩
/-- list[:k], list[k:] -/
theorem slice_to (a : Option Addr) (len cap k : Nat) (hk : k ≤ cap) (w : World) :
    (Instr.slice 22 (.slice a len cap) none (some (.int .i64 (k : Int))) none).run Try.prog w = .ok (.slice (if cap = 0 then a else a.map (·.add 0)) k cap) w := by
  have h1 : (0 : Int) ≤ (k : Int) ∧ (k : Int) ≤ (cap : Int) := by omega
  simp [Instr.slice, Instr.sliceBounds, Instr.sliceBound, asIntOf, run_underlying Try.underlying22, h1]
  intro h
  omega
theorem slice_from (a : Option Addr) (len cap k : Nat) (hk : k ≤ len) (w : World) :
    (Instr.slice 22 (.slice a len cap) (some (.int .i64 (k : Int))) none none).run Try.prog w = .ok (.slice (if cap = k then a else a.map (·.add (k * 3))) (len - k) (cap - k)) w := by
  have h1 : (0 : Int) ≤ (k : Int) ∧ (k : Int) ≤ (len : Int) := by omega
  simp [Instr.slice, Instr.sliceBounds, Instr.sliceBound, asIntOf, run_underlying Try.underlying22, h1]
  intro h
  omega
set_option maxRecDepth 100000 in
set_option maxHeartbeats 8000000 in
theorem chain_any (a : Option Addr) (len cap rb ro : Nat) (f : Nat → Stp) (r : Rc) (at' : Int) (w : World) (hlc : len ≤ cap) (hln : cap ≤ 9223372036854775807) (ha : 0 < len → a = some ⟨rb, ro, none⟩) (hr : 0 < len → Stps w rb ro len f)
    (hok : r.ok) :
    Calls Try.prog 6 #[.slice a len cap, .agg #[.int .u64 r.key, .float .f64 r.val], .int .i64 at'] w fun e w' => e = .returned (.bool true) ∧ Below w.heap.size w w' := by
  have HR := Lib.hid hr
  have C0 := Lib.hid oawake_any
  have C1 : Hid (∀ w2, Below w.heap.size w w2 → Calls Try.prog 12 #[.slice a len cap] w2 fun e w' => e = .returned (.int .i64 (chk f len)) ∧ Below w2.heap.size w2 w') := Lib.hid (fun w2 hb => check_any a len cap rb ro f w2 (by omega) ha (fun h => (HR.out h).keep hb (HR.out h).lt hb.size))
  have CR : Hid (∀ w2, Below w.heap.size w w2 → Calls Try.prog 14 #[.slice a len cap, .agg #[.int .u64 r.key, .float .f64 r.val]] w2 fun e w' => e = .returned (.tuple #[.agg #[.int .u64 (runOps f len r).1.key, .float .f64 (runOps f len r).1.val], .int .i64 (runOps f len r).2]) ∧ Below w2.heap.size w2 w') :=
    Lib.hid (fun w2 hb => run_any a len cap rb ro f r w2 (by omega) ha (fun h => (HR.out h).keep hb (HR.out h).lt hb.size) hok _ rfl)
  have CK : Hid (∀ w2, Below w.heap.size w w2 → Calls Try.prog 16 #[.slice a len cap, .agg #[.int .u64 r.key, .float .f64 r.val]] w2 fun e w' => e = .returned (.tuple #[.int .u64 (runOps f len r).1.key, .bool ((runOps f len r).2 == 1)]) ∧ Below w2.heap.size w2 w') :=
    Lib.hid (fun w2 hb => key_any a len cap rb ro f r w2 (by omega) ha (fun h => (HR.out h).keep hb (HR.out h).lt hb.size) hok)
  by_cases hc : chk f len = 0
  · obtain ⟨h8, hst⟩ := chk_ok hc
    rw [hc] at C1
    clear CK
    obtain ⟨k, hkl, hk⟩ := pick_at at' len h8
    have hk1 : (0 : Int) ≤ (k : Int) ∧ (k : Int) ≤ (cap : Int) := by omega
    have hk2 : (0 : Int) ≤ (k : Int) ∧ (k : Int) ≤ (len : Int) := by omega
    have C5 := Lib.hid (fun w => osame_any (runOps f len r).1 (runOps f len r).1 w)
    rw [sameR_self] at C5
    have hP := run_parts (r := r) h8 hst hkl
    have hR1ok : (runOps f k r).1.ok := run_ok (fun i hi => hst i (by omega)) hok
    have hJ := ChJ.start (f := f) hok hc
    generalize runOps f len r = T at *
    generalize hR1 : runOps f k r = R1 at *
    have CR1 : Hid (∀ A cap', (0 < k → A = some ⟨rb, ro, none⟩) → ∀ w2, Below w.heap.size w w2 → Calls Try.prog 14 #[.slice A k cap', .agg #[.int .u64 r.key, .float .f64 r.val]] w2 fun e w' => e = .returned (.tuple #[.agg #[.int .u64 R1.1.key, .float .f64 R1.1.val], .int .i64 R1.2]) ∧ Below w2.heap.size w2 w') :=
      Lib.hid (fun A cap' hA w2 hb => run_any A k cap' rb ro f r w2 (by omega) hA (fun h => (Stps.take (HR.out (by omega)) hkl).keep hb (HR.out (by omega)).lt hb.size) hok _ hR1)
    have CR2 : Hid (∀ A cap', (0 < len - k → A = some ⟨rb, ro + k * 3, none⟩) → ∀ w2, Below w.heap.size w w2 → Calls Try.prog 14 #[.slice A ((len - k : Nat)) cap', .agg #[.int .u64 R1.1.key, .float .f64 R1.1.val]] w2 fun e w' => e = .returned (.tuple #[.agg #[.int .u64 (runOps (fun j => f (j + k)) (len - k) R1.1).1.key, .float .f64 (runOps (fun j => f (j + k)) (len - k) R1.1).1.val], .int .i64 (runOps (fun j => f (j + k)) (len - k) R1.1).2]) ∧ Below w2.heap.size w2 w') :=
      Lib.hid (fun A cap' hA w2 hb => run_any A (len - k) cap' rb (ro + k * 3) (fun j => f (j + k)) R1.1 w2 (by omega) hA (fun h => (Stps.drop (HR.out (by omega)) hkl).keep hb (HR.out (by omega)).lt hb.size) hR1ok _ rfl)
    generalize runOps (fun j => f (j + k)) (len - k) R1.1 = R2 at *
    have AD2 : Hid (0 < len - k → (if cap = k then a else a.map (·.add (k * 3))) = some ⟨rb, ro + k * 3, none⟩) := Lib.hid (fun h => by
      rw [ha (by omega), if_neg (by omega)]
      show some (Addr.add _ _) = _
      unfold Addr.add
      split
      · rename_i h0; rw [h0]; rfl
      · rfl)
    have HP := Lib.hid hP
    have HJ := Lib.hid hJ
    have HH := Lib.hid (show len ≤ 8 ∧ (∀ i, i < len → isStp (f i) = true) ∧ k ≤ len ∧ len ≤ cap from ⟨h8, hst, hkl, hlc⟩)
    clear hP hJ hR1ok hR1 hr hst
    have AD1 : Hid (0 < k → a = some ⟨rb, ro, none⟩) := Lib.hid (fun h => ha (by omega))
    go_enter Try.func6, Try.ntmps6
    go_wp2_with fail
    refine (C0.out _).mono ?_
    rintro e w1 ⟨rfl, hb⟩
    have p1 : Below w.heap.size w w1 := (by repeat' (first | with_reducible exact Below.refl _ _ | with_reducible assumption | with_reducible refine bel_drew ?_ | with_reducible refine bel_alloc ?_ _ | with_reducible refine bel_set ?_ ?_ _ | with_reducible refine bel_call ?_ (by assumption) | (dsimp only; omega) | (simp; done) | (simp; omega)))
    have q1 : Blk w1 w.heap.size [.int .u64 r.key, .float .f64 r.val] 31 := Blk.below (by repeat' (first | with_reducible assumption | (show (_ : List Value) = _; rfl) | with_reducible exact Blk.new _ _ rfl | (with_reducible refine Blk.new _ _ ?_; simp; done) | with_reducible apply Blk.set_eq | with_reducible apply Blk.other | with_reducible apply Blk.alloc | with_reducible apply Blk.drew | (simp; done) | (simp; omega))) hb
    clear hb
    go_wp2_with fail
    refine (C1.out _ p1).mono ?_
    rintro e w2 ⟨rfl, hb⟩
    have p2 : Below w.heap.size w w2 := (by repeat' (first | with_reducible exact Below.refl _ _ | with_reducible assumption | with_reducible refine bel_drew ?_ | with_reducible refine bel_alloc ?_ _ | with_reducible refine bel_set ?_ ?_ _ | with_reducible refine bel_call ?_ (by assumption) | (dsimp only; omega) | (simp; done) | (simp; omega)))
    have q2 := q1.below hb
    clear hb q1 p1
    have q2c0 : w2.cell? ⟨w.heap.size, 0, none⟩ = some (.int .u64 r.key) := q2.cell 0; have q2c1 : w2.cell? ⟨w.heap.size, 1, none⟩ = some (.float .f64 r.val) := q2.cell 1; have q2z := q2.lt
    go_wp2_with fail
    rw [hk]
    refine (CR.out _ p2).mono ?_
    rintro e w3 ⟨rfl, hb⟩
    have p3 : Below w.heap.size w w3 := (by repeat' (first | with_reducible exact Below.refl _ _ | with_reducible assumption | with_reducible refine bel_drew ?_ | with_reducible refine bel_alloc ?_ _ | with_reducible refine bel_set ?_ ?_ _ | with_reducible refine bel_call ?_ (by assumption) | (dsimp only; omega) | (simp; done) | (simp; omega)))
    have q3 := q2.below hb
    clear hb q2 p2 q2c0 q2c1 q2z
    have q3c0 : w3.cell? ⟨w.heap.size, 0, none⟩ = some (.int .u64 r.key) := q3.cell 0; have q3c1 : w3.cell? ⟨w.heap.size, 1, none⟩ = some (.float .f64 r.val) := q3.cell 1; have q3z := q3.lt
    go_wp2_with fail
    refine wp_region_ghost (NewC _ 8 9 [.int .u64 R1.1.key, .float .f64 R1.1.val] [.int .u64 0, .float .f64 0] 31) (by kernel_rfl) (by kernel_rfl) NewC.loc (.begin (Below.refl _ _).drew rfl) ?_
    refine lexg_val (fun _ => by rfl) ?_; apply Exists.intro; refine ⟨?_, ?_⟩; ((intro g L w' hU hT; have hT' := hT.upd (i := 0) (by decide) (by decide); obtain ⟨hc, hf⟩ := bcell hT.bel; clear hT hU; go_simp; exact rfl)); simp only [Act.put, List.setIfInBounds_toArray, List.set_cons_zero, List.set_cons_succ]
    refine lexg_val (fun _ => by rfl) ?_; apply Exists.intro; refine ⟨?_, ?_⟩; ((intro g L w' hU hT; have hT' := hT.upd (i := 1) (by decide) (by decide); obtain ⟨hc, hf⟩ := bcell hT.bel; clear hT hU; go_simp; exact rfl)); simp only [Act.put, List.setIfInBounds_toArray, List.set_cons_zero, List.set_cons_succ]
    refine lexg_val (fun _ => by rfl) ?_; apply Exists.intro; refine ⟨?_, ?_⟩; ((intro g L w' hU hT; have hT' := hT.upd (i := 2) (by decide) (by decide); obtain ⟨hc, hf⟩ := bcell hT.bel; clear hT hU; go_simp; exact rfl)); simp only [Act.put, List.setIfInBounds_toArray, List.set_cons_zero, List.set_cons_succ]
    refine lexg_val (fun _ => by rfl) ?_; apply Exists.intro; refine ⟨?_, ?_⟩; ((intro g L w' hU hT; have hT' := hT.upd (i := 3) (by decide) (by decide); obtain ⟨hc, hf⟩ := bcell hT.bel; clear hT hU; go_simp; exact rfl)); simp only [Act.put, List.setIfInBounds_toArray, List.set_cons_zero, List.set_cons_succ]
    refine lexg_val (fun _ => by rfl) ?_; apply Exists.intro; refine ⟨?_, ?_⟩; ((intro g L w' hU hT; have hT' := hT.upd (i := 4) (by decide) (by decide); obtain ⟨hc, hf⟩ := bcell hT.bel; clear hT hU; go_simp; first | exact rfl | exact (CR1.out _ _ (fun h => by first | exact AD1.out h | (rw [AD1.out h]; rfl) | (rw [AD1.out h]; split <;> rfl)) _ (bel_call (by repeat' (first | with_reducible exact Below.refl _ _ | with_reducible assumption | with_reducible refine bel_drew ?_ | with_reducible refine bel_alloc ?_ _ | with_reducible refine bel_set ?_ ?_ _ | with_reducible refine bel_call ?_ (by assumption) | (dsimp only; omega) | (simp; done) | (simp; omega))) hT'.bel)).mono fun e w'' ⟨he, hb⟩ => ⟨he, hT'.next hb⟩)); simp only [Act.put, List.setIfInBounds_toArray, List.set_cons_zero, List.set_cons_succ]
    refine lexg_val (fun _ => by rfl) ?_; apply Exists.intro; refine ⟨?_, ?_⟩; ((intro g L w' hU hT; have hT' := hT.upd (i := 5) (by decide) (by decide); obtain ⟨hc, hf⟩ := bcell hT.bel; clear hT hU; go_simp; exact rfl)); simp only [Act.put, List.setIfInBounds_toArray, List.set_cons_zero, List.set_cons_succ]
    refine lexg_val (fun _ => by rfl) ?_; apply Exists.intro; refine ⟨?_, ?_⟩; ((intro g L w' hU hT; have hT' := hT.upd (i := 6) (by decide) (by decide); obtain ⟨hc, hf⟩ := bcell hT.bel; clear hT hU; go_simp; exact rfl)); simp only [Act.put, List.setIfInBounds_toArray, List.set_cons_zero, List.set_cons_succ]
    refine lexg_val (fun _ => by rfl) ?_; apply Exists.intro; refine ⟨?_, ?_⟩; ((intro g L w' hU hT; have hT' := hT.upd (i := 7) (by decide) (by decide); obtain ⟨hc, hf⟩ := bcell hT.bel; clear hT hU; go_simp; exact rfl)); simp only [Act.put, List.setIfInBounds_toArray, List.set_cons_zero, List.set_cons_succ]
    refine lexg_alloc (fun b => .pointer (some ⟨b, 0, none⟩)) (fun _ => by rfl) ?_ ?_; ((intro g L w' hU hT; refine ⟨w'.heap.size, _, ?_, hT.alloc (hU.closed.no (j := 9) rfl (by kernel_rfl) hU.not) (by decide)⟩; clear hT hU; go_simp)); simp only [Nat.reduceAdd]; simp only [Act.put, List.setIfInBounds_toArray, List.set_cons_zero, List.set_cons_succ]
    refine lexg_op (fun _ => by rfl) ?_; refine ⟨fun _ => undef, ?_, known_const _ _, ?_⟩; ((intro g L w' hU hT; have hK : L 8 = true := hU.yes (m := 8) rfl (by kernel_rfl); have hL := hU.not; have hT' := hT.store hK hL rfl; have hB := (hT.blk hK).2; rw [hL, if_neg (by decide)] at hB; have zc0 := hB.cell 0; have zf0 := hB.free 0; have zc1 := hB.cell 1; have zf1 := hB.free 1; simp only [List.getElem?_cons_zero, List.getElem?_cons_succ] at zc0 zc1; clear hT hU hK; go_simp; first | exact hT' | exact ⟨hT', rfl⟩)); simp only [Act.put]
    refine lexg_val (fun _ => by rfl) ?_; apply Exists.intro; refine ⟨?_, ?_⟩; ((intro g L w' hU hT; have hT' := hT.upd (i := 10) (by decide) (by decide); obtain ⟨hc, hf⟩ := bcell hT.bel; clear hT hU; go_simp; exact rfl)); simp only [Act.put, List.setIfInBounds_toArray, List.set_cons_zero, List.set_cons_succ]
    refine lexg_nil ?_; intro g w4 hT; have bel_w4 := hT.bel; have n_w4 := (hT.blk rfl).1; have q_w4 := (hT.blk rfl).2; clear hT; rw [if_pos rfl] at q_w4; dsimp only; generalize g 8 = b4 at *; clear g
    have p4 : Below w.heap.size w w4 := (by repeat' (first | with_reducible exact Below.refl _ _ | with_reducible assumption | with_reducible refine bel_drew ?_ | with_reducible refine bel_alloc ?_ _ | with_reducible refine bel_set ?_ ?_ _ | with_reducible refine bel_call ?_ (by assumption) | (dsimp only; omega) | (simp; done) | (simp; omega)))
    have qa : Blk w4 w3.heap.size [.int .u64 T.1.key, .float .f64 T.1.val] 31 := Blk.below (by repeat' (first | with_reducible assumption | (show (_ : List Value) = _; rfl) | with_reducible exact Blk.new _ _ rfl | (with_reducible refine Blk.new _ _ ?_; simp; done) | with_reducible apply Blk.set_eq | with_reducible apply Blk.other | with_reducible apply Blk.alloc | with_reducible apply Blk.drew | (simp; done) | (simp; omega))) bel_w4
    have qr : Blk w4 w.heap.size [.int .u64 r.key, .float .f64 r.val] 31 := Blk.below (by repeat' (first | with_reducible assumption | (show (_ : List Value) = _; rfl) | with_reducible exact Blk.new _ _ rfl | (with_reducible refine Blk.new _ _ ?_; simp; done) | with_reducible apply Blk.set_eq | with_reducible apply Blk.other | with_reducible apply Blk.alloc | with_reducible apply Blk.drew | (simp; done) | (simp; omega))) bel_w4
    have n4 : w3.heap.size < b4 := by have := n_w4; simp at this; omega
    have z3 : w.heap.size ≤ w3.heap.size := p3.size
    have z4 : w.heap.size ≤ b4 := by omega
    have ne3 : w3.heap.size ≠ b4 := by omega
    have ne0 : w.heap.size ≠ b4 := by have := q3.lt; omega
    clear bel_w4 n_w4 q3 q3c0 q3c1 q3z p3 n4
    generalize w3.heap.size = b3 at *
    have hP := HP.out
    by_cases hg : R1.2 = 1
    case' pos =>
      rw [if_pos hg] at hP
      obtain rfl : T = R2 := hP
      have hg1 : (R1.2 == 1) = true := by simpa using hg
      go_wp2_with fail
      refine wp_region_cls (SetC _ _ b4 8 [.int .u64 T.1.key, .float .f64 T.1.val] [.int .u64 R1.1.key, .float .f64 R1.1.val] 31) (by kernel_rfl) (by kernel_rfl) (SetC.begin _ (by decide) p4 q_w4) ?_
      refine lex_op (by rfl) ?_; apply Exists.intro; refine ⟨?_, ?_⟩; ((intro L w' hL hcl hT; have hT' := hT.upd (k := 0) (by decide); obtain ⟨hc, hf⟩ := bcell hT.bel; clear hT hcl hL; go_simp; exact rfl)); simp only [Act.put, List.setIfInBounds_toArray, List.set_cons_zero, List.set_cons_succ]
      refine lex_op (by rfl) ?_; apply Exists.intro; refine ⟨?_, ?_⟩; ((intro L w' hL hcl hT; have hT' := hT.upd (k := 1) (by decide); obtain ⟨hc, hf⟩ := bcell hT.bel; clear hT hcl hL; go_simp; exact rfl)); simp only [Act.put, List.setIfInBounds_toArray, List.set_cons_zero, List.set_cons_succ]
      refine lex_op (by rfl) ?_; apply Exists.intro; refine ⟨?_, ?_⟩; ((intro L w' hL hcl hT; have hT' := hT.upd (k := 2) (by decide); obtain ⟨hc, hf⟩ := bcell hT.bel; clear hT hcl hL; go_simp; exact rfl)); simp only [Act.put, List.setIfInBounds_toArray, List.set_cons_zero, List.set_cons_succ]
      refine lex_op (by rfl) ?_; apply Exists.intro; refine ⟨?_, ?_⟩; ((intro L w' hL hcl hT; have hT' := hT.upd (k := 3) (by decide); have hs4 := hcl.no (j := 4) (i := 3) rfl (by kernel_rfl) hL; have hs5 := hcl.no (j := 5) (i := 4) rfl (by kernel_rfl) hs4; have hs6 := hcl.no (j := 6) (i := 5) rfl (by kernel_rfl) hs5; have hs8 := hcl.no (j := 8) (i := 6) rfl (by kernel_rfl) hs6; have hB := hT.blk; rw [hs8, if_neg (by decide)] at hB; have zc0 := hB.cell 0; have zc1 := hB.cell 1; simp only [List.getElem?_cons_zero, List.getElem?_cons_succ] at zc0 zc1; clear hT hcl hL hs4 hs5 hs6 hs8 hB; go_simp; exact rfl)); simp only [Act.put, List.setIfInBounds_toArray, List.set_cons_zero, List.set_cons_succ]
      refine lex_op (by rfl) ?_; apply Exists.intro; refine ⟨?_, ?_⟩; ((intro L w' hL hcl hT; have hT' := hT.upd (k := 4) (by decide); obtain ⟨hc, hf⟩ := bcell hT.bel; clear hT hcl hL; go_simp; first | exact rfl | exact (CR2.out _ _ AD2.out _ hT'.bel).mono fun e w'' ⟨he, hb⟩ => ⟨he, hT'.next hb⟩)); simp only [Act.put, List.setIfInBounds_toArray, List.set_cons_zero, List.set_cons_succ]
      refine lex_op (by rfl) ?_; apply Exists.intro; refine ⟨?_, ?_⟩; ((intro L w' hL hcl hT; have hT' := hT.upd (k := 5) (by decide); obtain ⟨hc, hf⟩ := bcell hT.bel; clear hT hcl hL; go_simp; exact rfl)); simp only [Act.put, List.setIfInBounds_toArray, List.set_cons_zero, List.set_cons_succ]
      refine lex_op (by rfl) ?_; apply Exists.intro; refine ⟨?_, ?_⟩; ((intro L w' hL hcl hT; have hT' := hT.upd (k := 6) (by decide); obtain ⟨hc, hf⟩ := bcell hT.bel; clear hT hcl hL; go_simp; exact rfl)); simp only [Act.put, List.setIfInBounds_toArray, List.set_cons_zero, List.set_cons_succ]
      refine lex_op (by rfl) ?_; apply Exists.intro; refine ⟨?_, ?_⟩; ((intro L w' hL hcl hT; have hT' := hT.upd (k := 7) (by decide); obtain ⟨hc, hf⟩ := bcell hT.bel; clear hT hcl hL; go_simp; exact rfl)); simp only [Act.put, List.setIfInBounds_toArray, List.set_cons_zero, List.set_cons_succ]
      refine lex_op (by rfl) ?_; apply Exists.intro; refine ⟨?_, ?_⟩; ((intro L w' hL hcl hT; have hT' := hT.store hL z4 rfl; have hB := hT.blk; rw [hL, if_neg (by decide)] at hB; have zc0 := hB.cell 0; have zf0 := hB.free 0; have zc1 := hB.cell 1; have zf1 := hB.free 1; simp only [List.getElem?_cons_zero, List.getElem?_cons_succ] at zc0 zc1; clear hT hcl hL; go_simp; first | exact ⟨hT', rfl⟩ | exact hT')); simp only [Act.put]
      refine lex_op (by rfl) ?_; apply Exists.intro; refine ⟨?_, ?_⟩; ((intro L w' hL hcl hT; have hT' := hT.upd (k := 9) (by decide); obtain ⟨hc, hf⟩ := bcell hT.bel; clear hT hcl hL; go_simp; exact rfl)); simp only [Act.put, List.setIfInBounds_toArray, List.set_cons_zero, List.set_cons_succ]
      refine lex_nil ?_
      intro w5 hT
      generalize (if cap = k then a else a.map (·.add (k * 3))) = A2
      have p5 := hT.bel
      have q5 := hT.blk
      rw [if_pos rfl] at q5
      have qa5 := hT.oth _ _ _ ne3 qa
      have qr5 := hT.oth _ _ _ ne0 qr
      clear hT qa qr q_w4 p4
    case' neg =>
      rw [if_neg hg] at hP
      obtain rfl : T = R1 := hP
      have hg1 : (T.2 == 1) = false := by simpa using hg
      have p5 := p4
      have q5 := q_w4
      have qa5 := qa
      have qr5 := qr
      clear qa qr q_w4 p4
      generalize w4 = w5 at *
    all_goals
      clear CR1 CR2 AD1 AD2 HP hg hk hk1 hk2 CR C1 C0
      have q5c0 : w5.cell? ⟨b4, 0, none⟩ = some (.int .u64 T.1.key) := q5.cell 0; have q5c1 : w5.cell? ⟨b4, 1, none⟩ = some (.float .f64 T.1.val) := q5.cell 1; have q5z := q5.lt
      have qa5c0 : w5.cell? ⟨b3, 0, none⟩ = some (.int .u64 T.1.key) := qa5.cell 0; have qa5c1 : w5.cell? ⟨b3, 1, none⟩ = some (.float .f64 T.1.val) := qa5.cell 1; have qa5z := qa5.lt
      have qr5c0 : w5.cell? ⟨w.heap.size, 0, none⟩ = some (.int .u64 r.key) := qr5.cell 0; have qr5c1 : w5.cell? ⟨w.heap.size, 1, none⟩ = some (.float .f64 r.val) := qr5.cell 1; have qr5z := qr5.lt
      go_wp2_with fail
      refine (C5.out _).mono ?_
      rintro e w6 ⟨rfl, hb⟩
      have p6 : Below w.heap.size w w6 := (by repeat' (first | with_reducible exact Below.refl _ _ | with_reducible assumption | with_reducible refine bel_drew ?_ | with_reducible refine bel_alloc ?_ _ | with_reducible refine bel_set ?_ ?_ _ | with_reducible refine bel_call ?_ (by assumption) | (dsimp only; omega) | (simp; done) | (simp; omega)))
      have q6 := q5.below hb
      have qa6 := qa5.below hb
      have qr6 := qr5.below hb
      clear hb q5 qa5 qr5 p5 q5c0 q5c1 q5z qa5c0 qa5c1 qa5z qr5c0 qr5c1 qr5z
      have q6c0 : w6.cell? ⟨b4, 0, none⟩ = some (.int .u64 T.1.key) := q6.cell 0; have q6c1 : w6.cell? ⟨b4, 1, none⟩ = some (.float .f64 T.1.val) := q6.cell 1; have q6z := q6.lt
      have qr6c0 : w6.cell? ⟨w.heap.size, 0, none⟩ = some (.int .u64 r.key) := qr6.cell 0; have qr6c1 : w6.cell? ⟨w.heap.size, 1, none⟩ = some (.float .f64 r.val) := qr6.cell 1; have qr6z := qr6.lt
      have zf0 := q6.free 0
      have zf1 := q6.free 1
      have hE1 : (T.2 != T.2) = false := by simp
      go_wp2_with fail
      go_loopg [15, 16] len (fun g s15 s16 wr => ∃ (i : Nat) (x : Rc) (gg : Int), i ≤ len ∧ g = len - i ∧ s15 = .int .i64 gg ∧ s16 = .int .i64 i ∧ Below w.heap.size w wr ∧ Blk wr b4 [.int .u64 x.key, .float .f64 x.val] 31 ∧ Blk wr b3 [.int .u64 T.1.key, .float .f64 T.1.val] 31 ∧ ChJ f len i x gg T)
      case atStart => exact ⟨0, r, 1, Nat.zero_le _, rfl, rfl, rfl, (by repeat' (first | with_reducible exact Below.refl _ _ | with_reducible assumption | with_reducible refine bel_drew ?_ | with_reducible refine bel_alloc ?_ _ | with_reducible refine bel_set ?_ ?_ _ | with_reducible refine bel_call ?_ (by assumption) | (dsimp only; omega) | (simp; done) | (simp; omega))), (by repeat' (first | with_reducible assumption | (show (_ : List Value) = _; rfl) | with_reducible exact Blk.new _ _ rfl | (with_reducible refine Blk.new _ _ ?_; simp; done) | with_reducible apply Blk.set_eq | with_reducible apply Blk.other | with_reducible apply Blk.alloc | with_reducible apply Blk.drew | (simp; done) | (simp; omega))), (by repeat' (first | with_reducible assumption | (show (_ : List Value) = _; rfl) | with_reducible exact Blk.new _ _ rfl | (with_reducible refine Blk.new _ _ ?_; simp; done) | with_reducible apply Blk.set_eq | with_reducible apply Blk.other | with_reducible apply Blk.alloc | with_reducible apply Blk.drew | (simp; done) | (simp; omega))), HJ.out⟩
      case round =>
        clear q6 qa6 qr6 p6 q6c0 q6c1 q6z qr6c0 qr6c1 qr6z zf0 zf1
        obtain ⟨i, x, gg, hi, rfl, rfl, rfl, p, q, qa, J⟩ := hrel
        have ne3' : b3 ≠ b4 := ne3
        have qc0 : wr.cell? ⟨b4, 0, none⟩ = some (.int .u64 x.key) := q.cell 0; have qc1 : wr.cell? ⟨b4, 1, none⟩ = some (.float .f64 x.val) := q.cell 1; have qz := q.lt
        have qac0 : wr.cell? ⟨b3, 0, none⟩ = some (.int .u64 T.1.key) := qa.cell 0; have qac1 : wr.cell? ⟨b3, 1, none⟩ = some (.float .f64 T.1.val) := qa.cell 1; have qaz := qa.lt
        have JJ := Lib.hid J
        clear J
        have zf1 := q.free 1
        by_cases hlt : i < len
        · have hz2 : (i : Int) < (len : Int) := by omega
          by_cases hgg : gg = 1
          · obtain rfl := ha (by omega)
            have hg2 : (gg == 1) = true := by simpa using hgg
            have hw1 : IntKind.i64.wrap ((i : Int) + 1) = (i : Int) + 1 := Go.IntWalk.i64_in _ (by omega)
            have hx := JJ.out.ok
            have hst := HH.out.2.1 i hlt
            have hJ2 := Lib.hid (JJ.out.step hgg hlt hst)
            have CO := Lib.hid (fun w2 => one_any' (f i) x w2 ((HR.out (by omega)).ok i hlt) hx _ rfl)
            obtain ⟨rz, x0, x1, x2⟩ := (HR.out (by omega)).cells hlt (Below.refl _ w)
            generalize one (f i) x = Y at *
            clear hx hst JJ
            generalize f i = o at *
            obtain ⟨ok, on, ox⟩ := o
            dsimp only at *
            go_wp2_with fail
            refine wp_region_cls (SetC _ _ b4 9 [.int .u64 Y.1.key, .float .f64 Y.1.val] [.int .u64 x.key, .float .f64 x.val] 31) (by kernel_rfl) (by kernel_rfl) (SetC.begin _ (by decide) p q) ?_
            refine lex_op (by rfl) ?_; apply Exists.intro; refine ⟨?_, ?_⟩; ((intro L w' hL hcl hT; have hT' := hT.upd (k := 0) (by decide); obtain ⟨hc, hf⟩ := bcell hT.bel; clear hT hcl hL; go_simp; exact rfl)); simp only [Act.put, List.setIfInBounds_toArray, List.set_cons_zero, List.set_cons_succ]
            refine lex_op (by rfl) ?_; apply Exists.intro; refine ⟨?_, ?_⟩; ((intro L w' hL hcl hT; have hT' := hT.upd (k := 1) (by decide); obtain ⟨hc, hf⟩ := bcell hT.bel; clear hT hcl hL; go_simp; exact rfl)); simp only [Act.put, List.setIfInBounds_toArray, List.set_cons_zero, List.set_cons_succ]
            refine lex_op (by rfl) ?_; apply Exists.intro; refine ⟨?_, ?_⟩; ((intro L w' hL hcl hT; have hT' := hT.upd (k := 2) (by decide); obtain ⟨hc, hf⟩ := bcell hT.bel; clear hT hcl hL; go_simp; exact rfl)); simp only [Act.put, List.setIfInBounds_toArray, List.set_cons_zero, List.set_cons_succ]
            refine lex_op (by rfl) ?_; apply Exists.intro; refine ⟨?_, ?_⟩; ((intro L w' hL hcl hT; have hT' := hT.upd (k := 3) (by decide); obtain ⟨hc, hf⟩ := bcell hT.bel; clear hT hcl hL; go_simp; exact rfl)); simp only [Act.put, List.setIfInBounds_toArray, List.set_cons_zero, List.set_cons_succ]
            refine lex_op (by rfl) ?_; apply Exists.intro; refine ⟨?_, ?_⟩; ((intro L w' hL hcl hT; have hT' := hT.upd (k := 4) (by decide); have hs5 := hcl.no (j := 5) (i := 4) rfl (by kernel_rfl) hL; have hs6 := hcl.no (j := 6) (i := 5) rfl (by kernel_rfl) hs5; have hs7 := hcl.no (j := 7) (i := 6) rfl (by kernel_rfl) hs6; have hs9 := hcl.no (j := 9) (i := 7) rfl (by kernel_rfl) hs7; have hB := hT.blk; rw [hs9, if_neg (by decide)] at hB; have zc0 := hB.cell 0; have zc1 := hB.cell 1; simp only [List.getElem?_cons_zero, List.getElem?_cons_succ] at zc0 zc1; clear hT hcl hL hs5 hs6 hs7 hs9 hB; go_simp; exact rfl)); simp only [Act.put, List.setIfInBounds_toArray, List.set_cons_zero, List.set_cons_succ]
            refine lex_op (by rfl) ?_; apply Exists.intro; refine ⟨?_, ?_⟩; ((intro L w' hL hcl hT; have hT' := hT.upd (k := 5) (by decide); obtain ⟨hc, hf⟩ := bcell hT.bel; clear hT hcl hL; go_simp; first | exact rfl | exact (CO.out _).mono fun e w'' ⟨he, hb⟩ => ⟨he, hT'.next hb⟩)); simp only [Act.put, List.setIfInBounds_toArray, List.set_cons_zero, List.set_cons_succ]
            refine lex_op (by rfl) ?_; apply Exists.intro; refine ⟨?_, ?_⟩; ((intro L w' hL hcl hT; have hT' := hT.upd (k := 6) (by decide); obtain ⟨hc, hf⟩ := bcell hT.bel; clear hT hcl hL; go_simp; exact rfl)); simp only [Act.put, List.setIfInBounds_toArray, List.set_cons_zero, List.set_cons_succ]
            refine lex_op (by rfl) ?_; apply Exists.intro; refine ⟨?_, ?_⟩; ((intro L w' hL hcl hT; have hT' := hT.upd (k := 7) (by decide); obtain ⟨hc, hf⟩ := bcell hT.bel; clear hT hcl hL; go_simp; exact rfl)); simp only [Act.put, List.setIfInBounds_toArray, List.set_cons_zero, List.set_cons_succ]
            refine lex_op (by rfl) ?_; apply Exists.intro; refine ⟨?_, ?_⟩; ((intro L w' hL hcl hT; have hT' := hT.upd (k := 8) (by decide); obtain ⟨hc, hf⟩ := bcell hT.bel; clear hT hcl hL; go_simp; exact rfl)); simp only [Act.put, List.setIfInBounds_toArray, List.set_cons_zero, List.set_cons_succ]
            refine lex_op (by rfl) ?_; apply Exists.intro; refine ⟨?_, ?_⟩; ((intro L w' hL hcl hT; have hT' := hT.store hL z4 rfl; have hB := hT.blk; rw [hL, if_neg (by decide)] at hB; have zc0 := hB.cell 0; have zf0 := hB.free 0; have zc1 := hB.cell 1; have zf1 := hB.free 1; simp only [List.getElem?_cons_zero, List.getElem?_cons_succ] at zc0 zc1; clear hT hcl hL; go_simp; first | exact ⟨hT', rfl⟩ | exact hT')); simp only [Act.put]
            refine lex_op (by rfl) ?_; apply Exists.intro; refine ⟨?_, ?_⟩; ((intro L w' hL hcl hT; have hT' := hT.upd (k := 10) (by decide); obtain ⟨hc, hf⟩ := bcell hT.bel; clear hT hcl hL; go_simp; exact rfl)); simp only [Act.put, List.setIfInBounds_toArray, List.set_cons_zero, List.set_cons_succ]
            refine lex_nil ?_
            intro w7 hT
            have p7 := hT.bel
            have q7 := hT.blk
            rw [if_pos rfl] at q7
            have qa7 := hT.oth _ _ _ ne3 qa
            clear hT
            go_wp2_with fail
            go_roundg (len - (i + 1))
            case measure => omega
            case rel => exact ⟨i + 1, Y.1, Y.2, by omega, rfl, rfl, (by first | rfl | simp), p7, q7, qa7, hJ2.out⟩
          · have hg2 : (gg == 1) = false := by simpa using hgg
            have hD := JJ.out.done hi (by omega)
            rw [if_neg (by omega)] at hD
            obtain rfl := hD
            have hl0 : ((len : Int) == 0) = false := by simp; omega
            clear JJ
            have hE2 : (gg == gg) = true := by simp
            go_wp2_with fail
            refine (C5.out _).mono ?_
            rintro e w8 ⟨rfl, hb⟩
            have p8 := bel_call p hb
            clear hb
            go_wp2_with fail
            go_ret
            exact ⟨rfl, p8⟩
        · have hz2 : ¬ ((i : Int) < (len : Int)) := by omega
          have hD := JJ.out.done hi (by omega)
          by_cases hl : len = 0
          · subst hl
            rw [if_pos rfl] at hD
            obtain rfl := hD
            have CN := Lib.hid (fun w => canon_any x.val w JJ.out.ok.2.2)
            clear JJ
            have hE2 : (gg == gg) = true := by simp
            go_wp2_with fail
            refine (CN.out _).mono ?_
            rintro e w8 ⟨rfl, rfl⟩
            go_wp2_with fail
            refine (C5.out _).mono ?_
            rintro e w8 ⟨rfl, hb⟩
            have p8 : Below w.heap.size w w8 := bel_call (bel_set p (by exact z4) _) hb
            clear hb
            go_wp2_with fail
            go_ret
            exact ⟨rfl, p8⟩
          · rw [if_neg hl] at hD
            obtain rfl := hD
            have hl0 : ((len : Int) == 0) = false := by simp; omega
            clear JJ
            have hE2 : (gg == gg) = true := by simp
            go_wp2_with fail
            refine (C5.out _).mono ?_
            rintro e w8 ⟨rfl, hb⟩
            have p8 := bel_call p hb
            clear hb
            go_wp2_with fail
            go_ret
            exact ⟨rfl, p8⟩
  · have hT : runOps f len r = (⟨0, 0⟩, 0) := by unfold runOps; rw [if_neg hc]
    rw [hT] at CR CK
    have C5 := Lib.hid (fun w => osame_any ⟨0, 0⟩ ⟨0, 0⟩ w)
    rw [sameR_self] at C5
    dsimp only at CR CK C5
    generalize chk f len = cc at *
    have hc' : (cc != 0) = true := by simpa using hc
    clear hr HR ha hln hlc hT hok
    go_enter Try.func6, Try.ntmps6
    go_wp2_with fail
    refine (C0.out _).mono ?_
    rintro e w1 ⟨rfl, hb⟩
    have p1 : Below w.heap.size w w1 := (by repeat' (first | with_reducible exact Below.refl _ _ | with_reducible assumption | with_reducible refine bel_drew ?_ | with_reducible refine bel_alloc ?_ _ | with_reducible refine bel_set ?_ ?_ _ | with_reducible refine bel_call ?_ (by assumption) | (dsimp only; omega) | (simp; done) | (simp; omega)))
    have q1 : Blk w1 w.heap.size [.int .u64 r.key, .float .f64 r.val] 31 := Blk.below (by repeat' (first | with_reducible assumption | (show (_ : List Value) = _; rfl) | with_reducible exact Blk.new _ _ rfl | (with_reducible refine Blk.new _ _ ?_; simp; done) | with_reducible apply Blk.set_eq | with_reducible apply Blk.other | with_reducible apply Blk.alloc | with_reducible apply Blk.drew | (simp; done) | (simp; omega))) hb
    clear hb
    go_wp2_with fail
    refine (C1.out _ p1).mono ?_
    rintro e w2 ⟨rfl, hb⟩
    have p2 : Below w.heap.size w w2 := (by repeat' (first | with_reducible exact Below.refl _ _ | with_reducible assumption | with_reducible refine bel_drew ?_ | with_reducible refine bel_alloc ?_ _ | with_reducible refine bel_set ?_ ?_ _ | with_reducible refine bel_call ?_ (by assumption) | (dsimp only; omega) | (simp; done) | (simp; omega)))
    have q2 := q1.below hb
    clear hb q1 p1
    have q2c0 : w2.cell? ⟨w.heap.size, 0, none⟩ = some (.int .u64 r.key) := q2.cell 0; have q2c1 : w2.cell? ⟨w.heap.size, 1, none⟩ = some (.float .f64 r.val) := q2.cell 1; have q2z := q2.lt
    go_wp2_with fail
    refine (CR.out _ p2).mono ?_
    rintro e w3 ⟨rfl, hb⟩
    have p3 : Below w.heap.size w w3 := (by repeat' (first | with_reducible exact Below.refl _ _ | with_reducible assumption | with_reducible refine bel_drew ?_ | with_reducible refine bel_alloc ?_ _ | with_reducible refine bel_set ?_ ?_ _ | with_reducible refine bel_call ?_ (by assumption) | (dsimp only; omega) | (simp; done) | (simp; omega)))
    have q3 := q2.below hb
    clear hb q2 p2 q2c0 q2c1 q2z
    have q3c0 : w3.cell? ⟨w.heap.size, 0, none⟩ = some (.int .u64 r.key) := q3.cell 0; have q3c1 : w3.cell? ⟨w.heap.size, 1, none⟩ = some (.float .f64 r.val) := q3.cell 1; have q3z := q3.lt
    go_wp2_with fail
    refine (CK.out _ (by repeat' (first | with_reducible exact Below.refl _ _ | with_reducible assumption | with_reducible refine bel_drew ?_ | with_reducible refine bel_alloc ?_ _ | with_reducible refine bel_set ?_ ?_ _ | with_reducible refine bel_call ?_ (by assumption) | (dsimp only; omega) | (simp; done) | (simp; omega)))).mono ?_
    rintro e w4 ⟨rfl, hb⟩
    have p4 : Below w.heap.size w w4 := (by repeat' (first | with_reducible exact Below.refl _ _ | with_reducible assumption | with_reducible refine bel_drew ?_ | with_reducible refine bel_alloc ?_ _ | with_reducible refine bel_set ?_ ?_ _ | with_reducible refine bel_call ?_ (by assumption) | (dsimp only; omega) | (simp; done) | (simp; omega)))
    have q4 : Blk w4 w3.heap.size [.int .u64 0, .float .f64 0] 31 := Blk.below (by repeat' (first | with_reducible assumption | (show (_ : List Value) = _; rfl) | with_reducible exact Blk.new _ _ rfl | (with_reducible refine Blk.new _ _ ?_; simp; done) | with_reducible apply Blk.set_eq | with_reducible apply Blk.other | with_reducible apply Blk.alloc | with_reducible apply Blk.drew | (simp; done) | (simp; omega))) hb
    clear hb q3 p3 q3c0 q3c1 q3z
    have q4c0 : w4.cell? ⟨w3.heap.size, 0, none⟩ = some (.int .u64 0) := q4.cell 0; have q4c1 : w4.cell? ⟨w3.heap.size, 1, none⟩ = some (.float .f64 0) := q4.cell 1; have q4z := q4.lt
    go_wp2_with fail
    refine (C5.out _).mono ?_
    rintro e w5 ⟨rfl, hb⟩
    go_wp2_with fail
    go_ret
    exact ⟨rfl, (by repeat' (first | with_reducible exact Below.refl _ _ | with_reducible assumption | with_reducible refine bel_drew ?_ | with_reducible refine bel_alloc ?_ _ | with_reducible refine bel_set ?_ ?_ _ | with_reducible refine bel_call ?_ (by assumption) | (dsimp only; omega) | (simp; done) | (simp; omega)))⟩
end Go.Proofs.Ytgcbjpdmnlanoaa
