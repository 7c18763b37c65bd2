/- HELPERS of law07: two sources beside one another. WALKS of law07: filled. WALK of law07: awake. -/
import Derived.Test.YtbckfoldjlgabaaSpT
namespace Go.Proofs.Ytbckfoldjlgabaa
open Go.RowKit Go.Maps
open Fl (nan key canon)
/-- no log of the one lies in a block of the other's -/
def Cross (n : Nat) (lg lg' : Nat → Value) : Prop := ∀ i j b, i < n → j < n → (lg i).ownBlock = some b → (lg' j).ownBlock ≠ some b
section
variable {w w' : World} {base sb pb mb tb gb ob : Nat} {lv lv' : Value} {lg lg' lg2 : Nat → Value} {s s' : St} {p : Nat}
theorem SrcF.down (h : SrcF w base sb pb mb lv lg s) {N : Nat} (hN : N ≤ base) : SrcF w N sb pb mb lv lg s :=
  ⟨h.src, h.lst, h.map, h.k64, h.sep, ⟨Nat.le_trans hN h.low.1, Nat.le_trans hN h.low.2.1, Nat.le_trans hN h.low.2.2⟩, fun i b hi hb => Nat.le_trans hN (h.lowl i b hi hb)⟩
theorem RSrcF.down (h : RSrcF w base tb gb ob lv lg s) {N : Nat} (hN : N ≤ base) : RSrcF w N tb gb ob lv lg s :=
  ⟨h.src, h.lst, h.k64, h.sep, ⟨Nat.le_trans hN h.low.1, Nat.le_trans hN h.low.2.1, Nat.le_trans hN h.low.2.2⟩, fun i b hi hb => Nat.le_trans hN (h.lowl i b hi hb)⟩
theorem rsrc_beside (h : RSrcF w base tb gb ob lv' lg' s') (hs : SrcF w base sb pb mb lv lg s) (hc : Cross s.n lg lg') (hn : s'.n = s.n) (hp : p < s.n) (hu : Upd w w' (fun b => b = pb ∨ b = mb ∨ (lg p).ownBlock = some b)) : RSrcF w' base tb gb ob lv' lg' s' := by
  have key : ∀ {b : Nat} {t : TypeId}, (∃ c, w.heap[b]? = some (.cells c t (0, 0))) → t ≠ 89 → t ≠ 66 → ¬ (b = pb ∨ b = mb ∨ (lg p).ownBlock = some b) := by
    intro b t hk h1 h2 hx
    rcases hx with hx | hx | hx
    · exact kind_ne hk hs.src.pt.kind h1 hx
    · exact hs.map.ne hk hx
    · exact kind_ne hk ((hs.src.rc p hp).kind hx) h2 rfl
  refine ⟨⟨h.src.ok, h.src.hd.upd hu (key h.src.hd.kind (by decide) (by decide)), h.src.gs.upd hu (key h.src.gs.kind (by decide) (by decide)), h.src.os.upd hu (key h.src.os.kind (by decide) (by decide)), fun i hi => (h.src.rc i hi).upd hu (fun b hb hx => ?_)⟩, h.lst.upd hu (fun b hb => key (h.lst.kind hb) (by decide) (by decide)), h.k64, h.sep, h.low, h.lowl⟩
  have hk := (h.src.rc i hi).kind hb
  rcases hx with hx | hx | hx
  · exact kind_ne hk hs.src.pt.kind (by decide) hx
  · exact hs.map.ne hk hx
  · exact hc p i b hp (hn ▸ hi) hx hb
theorem src_beside (h : SrcF w base sb pb mb lv lg s) (hs : RSrcF w base tb gb ob lv' lg' s') (hc : Cross s.n lg lg') (hn : s'.n = s.n) (hp : p < s.n) (hu : Upd w w' (fun b => b = gb ∨ b = ob ∨ (lg' p).ownBlock = some b)) : SrcF w' base sb pb mb lv lg s := by
  have key : ∀ {b : Nat} {t : TypeId}, (∃ c, w.heap[b]? = some (.cells c t (0, 0))) → t ≠ 22 → t ≠ 4 → t ≠ 66 → ¬ (b = gb ∨ b = ob ∨ (lg' p).ownBlock = some b) := by
    intro b t hk h1 h3 h2 hx
    rcases hx with hx | hx | hx
    · exact kind_ne hk hs.src.gs.kind h1 hx
    · exact kind_ne hk hs.src.os.kind h3 hx
    · exact kind_ne hk ((hs.src.rc p (hn ▸ hp)).kind hx) h2 rfl
  refine ⟨⟨h.src.ok, h.src.hd.upd hu (key h.src.hd.kind (by decide) (by decide) (by decide)), h.src.pt.upd hu (key h.src.pt.kind (by decide) (by decide) (by decide)), fun i hi => (h.src.rc i hi).upd hu (fun b hb hx => ?_)⟩, h.lst.upd hu (fun b hb => key (h.lst.kind hb) (by decide) (by decide) (by decide)), h.map.upd hu (fun hx => ?_), h.k64, h.sep, h.low, h.lowl⟩
  · have hk := (h.src.rc i hi).kind hb
    rcases hx with hx | hx | hx
    · exact kind_ne hk hs.src.gs.kind (by decide) hx
    · exact kind_ne hk hs.src.os.kind (by decide) hx
    · exact hc i p b hi hp hb hx
  · rcases hx with hx | hx | hx
    · exact h.map.ne hs.src.gs.kind hx.symm
    · exact h.map.ne hs.src.os.kind hx.symm
    · exact h.map.ne ((hs.src.rc p (hn ▸ hp)).kind hx) rfl
theorem cross_left {n : Nat} (hc : Cross n lg lg') (hw : ∀ j b, j < n → (lg' j).ownBlock = some b → b < w.heap.size) (hn : Newer w p lg lg2) : Cross n lg2 lg' := by
  intro i j b hi hj h1 h2
  rcases hn i with h | ⟨_, h | h⟩
  · rw [h] at h1; exact hc i j b hi hj h1 h2
  · rw [h] at h1; exact hc i j b hi hj h1 h2
  · have := h b h1
    have := hw j b hj h2
    omega
theorem cross_right {n : Nat} (hc : Cross n lg lg') (hw : ∀ j b, j < n → (lg j).ownBlock = some b → b < w.heap.size) (hn : Newer w p lg' lg2) : Cross n lg lg2 := by
  intro i j b hi hj h1 h2
  rcases hn j with h | ⟨_, h | h⟩
  · rw [h] at h2; exact hc i j b hi hj h1 h2
  · rw [h] at h2; exact hc i j b hi hj h1 h2
  · have := h b h2
    have := hw i b hi h1
    omega
/-- both sources hold the same; nothing of theirs lies below base -/
structure Two (w : World) (base sb tb : Nat) (s : St) : Prop where
  out : ∃ pb mb lv lg gb ob lv' lg', SrcF w base sb pb mb lv lg s ∧ RSrcF w base tb gb ob lv' lg' s ∧ Cross s.n lg lg'
theorem prodS_n (s : St) (p : Nat) (r : Rc) : (prodS s p r).n = s.n := by unfold prodS; split <;> rfl
theorem sw_n (s : St) (p : Int) (on : Bool) : (s.sw p on).n = s.n := by unfold St.sw; split <;> rfl
end
section
variable {w : World} {base sb tb : Nat} {s : St} {p : Nat} {r : Rc}
/-- a record more in the first of them; then in both -/
structure Half (w : World) (base sb tb : Nat) (s s' : St) : Prop where
  out : ∃ pb mb lv lg gb ob lv' lg', SrcF w base sb pb mb lv lg s' ∧ RSrcF w base tb gb ob lv' lg' s ∧ Cross s.n lg lg'
theorem two_first (h : Two w base sb tb s) (hb : base ≤ w.heap.size) (hp : p < s.n) (hok : r.ok) :
    Calls Try.prog 37 #[.pointer (some ⟨sb, 0, none⟩), .int .i64 p, .agg #[.int .u64 r.key, .float .f64 r.val]] w fun e w' => (∃ er, e = .returned (.int .i64 er)) ∧ Half w' base sb tb s (prodS s p r) ∧ Below base w w' := by
  obtain ⟨pb, mb, lv, lg, gb, ob, lv', lg', h1, h2, hc⟩ := h.out
  refine (sproduce_any h1 hp hok).mono ?_
  rintro e w' ⟨lg2, he, h3, hu, hn⟩
  exact ⟨⟨_, he⟩, ⟨pb, mb, lv, lg2, gb, ob, lv', lg', h3, rsrc_beside h2 h1 hc rfl hp hu, cross_left hc (fun j b hj hx => ((h2.src.rc j hj).lt b hx).2) hn⟩, hu.below hb (fun b hx => by
    rcases hx with rfl | rfl | hx
    · exact h1.low.2.1
    · exact h1.low.2.2
    · exact h1.lowl p b hp hx)⟩
theorem two_second {s' : St} (h : Half w base sb tb s s') (hb : base ≤ w.heap.size) (hn' : s'.n = s.n) (hs' : s' = prodS s p r) (hp : p < s.n) (hok : r.ok) :
    Calls Try.prog 38 #[.pointer (some ⟨tb, 0, none⟩), .int .i64 p, .agg #[.int .u64 r.key, .float .f64 r.val]] w fun e w' => (∃ er, e = .returned (.int .i64 er)) ∧ Two w' base sb tb s' ∧ Below base w w' := by
  obtain ⟨pb, mb, lv, lg, gb, ob, lv', lg', h1, h2, hc⟩ := h.out
  refine (rproduce_any h2 hp hok).mono ?_
  rintro e w' ⟨lg2, he, h3, hu, hn⟩
  rw [← hs'] at h3
  exact ⟨⟨_, he⟩, ⟨pb, mb, lv, lg, gb, ob, lv', lg2, src_beside h1 h2 (hn' ▸ hc) hn'.symm (hn' ▸ hp) (hu.wide (fun b hx => hx.elim .inl (fun hx => .inr (.inr hx)))), h3, hn' ▸ cross_right hc (fun j b hj hx => ((h1.src.rc j (hn' ▸ hj)).lt b hx).2) hn⟩, hu.below hb (fun b hx => by
    rcases hx with rfl | hx
    · exact h2.low.2.1
    · exact h2.lowl p b hp hx)⟩
theorem two_off {q : Int} {on : Bool} (h : Two w base sb tb s) (hb : base ≤ w.heap.size) :
    Calls Try.prog 23 #[.pointer (some ⟨sb, 0, none⟩), .int .i64 q, .bool on] w fun e w' => (∃ er, e = .returned (.int .i64 er)) ∧ Half w' base sb tb s (s.sw q on) ∧ Below base w w' := by
  obtain ⟨pb, mb, lv, lg, gb, ob, lv', lg', h1, h2, hc⟩ := h.out
  refine (sswitch_any h1).mono ?_
  rintro e w' ⟨he, h3, hu⟩
  exact ⟨he, ⟨pb, mb, lv, lg, gb, ob, lv', lg', h3, rsrc_beside h2 h1 hc rfl (p := 0) h1.src.ok.n1 (hu.wide (fun b hx => .inl hx)), hc⟩, hu.below hb (fun b hx => by
    subst hx
    exact h1.low.2.1)⟩
theorem two_off2 {q : Int} {on : Bool} {s' : St} (h : Half w base sb tb s s') (hs' : s' = s.sw q on) (hb : base ≤ w.heap.size) :
    Calls Try.prog 39 #[.pointer (some ⟨tb, 0, none⟩), .int .i64 q, .bool on] w fun e w' => (∃ er, e = .returned (.int .i64 er)) ∧ Two w' base sb tb s' ∧ Below base w w' := by
  obtain ⟨pb, mb, lv, lg, gb, ob, lv', lg', h1, h2, hc⟩ := h.out
  have hn' : s'.n = s.n := by rw [hs', sw_n]
  refine (rswitch_any h2).mono ?_
  rintro e w' ⟨he, h3, hu⟩
  rw [← hs'] at h3
  exact ⟨he, ⟨pb, mb, lv, lg, gb, ob, lv', lg', src_beside h1 h2 (hn' ▸ hc) hn'.symm (p := 0) h1.src.ok.n1 (hu.wide (fun b hx => .inr (.inl hx))), h3, hn' ▸ hc⟩, hu.below hb (fun b hx => by
    subst hx
    exact h2.low.2.2)⟩
theorem Two.keep {w' : World} (h : Two w base sb tb s) (hb : Below w.heap.size w w') : Two w' base sb tb s := by
  obtain ⟨pb, mb, lv, lg, gb, ob, lv', lg', h1, h2, hc⟩ := h.out
  exact ⟨pb, mb, lv, lg, gb, ob, lv', lg', h1.keep hb, h2.keep hb, hc⟩
end
/-- the partition of record i -/
def idx (al : List Int) (z : Int) (i : Nat) : Nat := if i < al.length then (al.getD i 0 % 18446744073709551616 % z).toNat else 0
/-- a source behind the first i records, behind the first j that go off -/
def fillR (z : Int) (rl : List Rc) (al : List Int) : Nat → St
  | 0 => St.empty z.toNat
  | i + 1 => prodS (fillR z rl al i) (idx al z i) (rl.getD i ⟨0, 0⟩)
def fillO (s : St) (ol : List Int) : Nat → St
  | 0 => s
  | j + 1 => (fillO s ol j).sw (ol.getD j 0) false
def fill (z : Int) (rl : List Rc) (al ol : List Int) : St := fillO (fillR z rl al (min rl.length 1024)) ol ol.length
theorem fillR_n (z : Int) (rl : List Rc) (al : List Int) : ∀ i, (fillR z rl al i).n = z.toNat
  | 0 => rfl
  | i + 1 => (prodS_n _ _ _).trans (fillR_n z rl al i)
theorem fillO_n (s : St) (ol : List Int) : ∀ j, (fillO s ol j).n = s.n
  | 0 => rfl
  | j + 1 => (sw_n _ _ _).trans (fillO_n s ol j)
theorem idx_lt {al : List Int} {z : Int} (hz : 1 ≤ z) (i : Nat) : idx al z i < z.toNat := by
  unfold idx
  split
  · have := Int.emod_nonneg (al.getD i 0 % 18446744073709551616) (show z ≠ 0 by omega)
    have := Int.emod_lt_of_pos (al.getD i 0 % 18446744073709551616) (show 0 < z by omega)
    omega
  · omega
end Go.Proofs.Ytbckfoldjlgabaa
namespace Go.Proofs.Ytbckfoldjlgabaa
open Go.RowKit Go.Maps
open Fl (nan key canon)
theorem less_lies (w : World) (b : Nat) (hb : b = w.heap.size) : Stps (w.alloc (.cells #[.int .i64 1, .int .i64 0, .float .f64 18318360957983683996] 73)) b 0 1 (fun _ => less) := by
  subst hb
  exact (Blk.flat (N := 1) (t := 73) (el := stc (fun _ => less)) (Blk.new [.int .i64 1, .int .i64 0, .float .f64 18318360957983683996] _ rfl) (stc_len _) (Nat.le_refl _)).stps' (fun _ _ => less_ok)
set_option maxRecDepth 100000 in
set_option maxHeartbeats 16000000 in
theorem filled_none {z : Int} {rv av ov : Value} {rl : List Rc} {al ol : List Int} {w : World} (hr : Recs w rv rl) (ha : Ints w av al) (ho : Ints w ov ol) (hz : z < 1 ∨ 4 < z) :
    Calls Try.prog 12 #[.agg #[.int .i64 z, rv, av, ov]] w fun e w' => e = .returned (.tuple #[.pointer none, .pointer none]) ∧ Below w.heap.size w w' := by
  have C1 := Lib.hid (fun v W => snew_none (v := v) (w := W) hz)
  have C2 := Lib.hid (fun v W => rnew_none (v := v) (w := W) hz)
  obtain ⟨_, _, _, _, _, _, rfl, -⟩ := hr
  obtain ⟨_, _, _, _, _, _, rfl, -⟩ := ha
  obtain ⟨_, _, _, _, _, _, rfl, -⟩ := ho
  clear hz
  go_enter Try.func12, Try.ntmps12
  go_wp2_with fail
  refine (C1.out _ _).mono ?_
  rintro e w1 ⟨rfl, rfl⟩
  go_wp2_with fail
  refine (C2.out _ _).mono ?_
  rintro e w2 ⟨rfl, rfl⟩
  go_wp2_with fail
  go_ret2
  exact ⟨rfl, (by repeat' (first | with_reducible exact Below.refl _ _ | with_reducible assumption | with_reducible refine bel_drew ?_ | with_reducible refine bel_alloc ?_ _ | with_reducible refine bel_set ?_ ?_ _ | with_reducible refine bel_call ?_ (by assumption) | (dsimp only; omega) | (simp; done) | (simp; omega)))⟩
set_option maxRecDepth 100000 in
set_option maxHeartbeats 16000000 in
theorem filled_any {z : Int} {rv av ov : Value} {rl : List Rc} {al ol : List Int} {w : World} (hr : Recs w rv rl) (ha : Ints w av al) (ho : Ints w ov ol) (hz : 1 ≤ z) (hz4 : z ≤ 4) :
    Calls Try.prog 12 #[.agg #[.int .i64 z, rv, av, ov]] w fun e w' => ∃ sb tb, e = .returned (.tuple #[.pointer (some ⟨sb, 0, none⟩), .pointer (some ⟨tb, 0, none⟩)]) ∧ Two w' (w.heap.size + 1) sb tb (fill z rl al ol) ∧ Below w.heap.size w w' := by
  have C1 := Lib.hid (fun b W (h : Stps W b 0 1 (fun _ => less)) => snew_any (w := W) h hz hz4)
  have C2 := Lib.hid (fun b W (h : Stps W b 0 1 (fun _ => less)) => rnew_any (w := W) h hz hz4)
  obtain ⟨ra, rn, rcap, rb, ro, rp, rfl, rfl, ra1, rr1, _, _⟩ := hr
  obtain ⟨aa, an, acap, ab, ao, ap, rfl, rfl, aa1, ar1, _, am⟩ := ha
  obtain ⟨oa, on, ocap, ob', oo, op, rfl, rfl, oa1, or1, _, om⟩ := ho
  have RA := Lib.hid ra1
  have RR := Lib.hid rr1
  have AA := Lib.hid aa1
  have AR := Lib.hid ar1
  have OA := Lib.hid oa1
  have OR := Lib.hid or1
  have OM := Lib.hid om
  have HZ : Hid (1 ≤ z ∧ z ≤ 4) := Lib.hid ⟨hz, hz4⟩
  clear ra1 rr1 aa1 ar1 oa1 or1 am om hz hz4
  go_enter Try.func12, Try.ntmps12
  go_wp2_with fail
  refine (C1.out (w.heap.size + 1) _ (less_lies _ _ (by simp))).mono ?_
  rintro e w1 ⟨sb, pb, mb, lv, rfl, hS, b1⟩
  have p1 : Below w.heap.size w w1 := (by repeat' (first | with_reducible exact Below.refl _ _ | with_reducible assumption | with_reducible refine bel_drew ?_ | with_reducible refine bel_alloc ?_ _ | with_reducible refine bel_set ?_ ?_ _ | with_reducible refine bel_call ?_ (by assumption) | (dsimp only; omega) | (simp; done) | (simp; omega)))
  have B1 : Blk w1 w.heap.size [.int .i64 z, .slice ra rn rcap, .slice aa an acap, .slice oa on ocap] 25 := Blk.below (by repeat' (first | with_reducible assumption | (show (_ : List Value) = _; rfl) | with_reducible exact Blk.new _ _ rfl | (with_reducible refine Blk.new _ _ ?_; simp; done) | with_reducible apply Blk.set_eq | with_reducible apply Blk.other | with_reducible apply Blk.alloc | with_reducible apply Blk.drew | (simp; done) | (simp; omega))) b1
  have hs1 := hS.down (N := w.heap.size + 1) (by simp)
  have HS := Lib.hid hs1
  clear hS hs1 b1 C1
  have c0 : w1.cell? ⟨w.heap.size, 0, none⟩ = some (.int .i64 z) := B1.cell 0
  have n0 := B1.lt
  go_wp2_with fail
  refine (C2.out w1.heap.size _ (less_lies _ _ rfl)).mono ?_
  rintro e w2 ⟨tb, gb, ob, lv', rfl, hT, b2⟩
  have p2 : Below w.heap.size w w2 := (by repeat' (first | with_reducible exact Below.refl _ _ | with_reducible assumption | with_reducible refine bel_drew ?_ | with_reducible refine bel_alloc ?_ _ | with_reducible refine bel_set ?_ ?_ _ | with_reducible refine bel_call ?_ (by assumption) | (dsimp only; omega) | (simp; done) | (simp; omega)))
  have n1 := p1.size
  have B2 : Blk w2 w.heap.size [.int .i64 z, .slice ra rn rcap, .slice aa an acap, .slice oa on ocap] 25 := (B1.below (bel_alloc1 _ _)).below b2
  have HS2 : Hid (SrcF w2 (w.heap.size + 1) sb pb mb lv nils (St.empty z.toNat)) := Lib.hid ((HS.out.keep (bel_alloc1 _ _)).keep b2)
  have HT2 : Hid (RSrcF w2 (w.heap.size + 1) tb gb ob lv' nils (St.empty z.toNat)) := Lib.hid (hT.down (by simp; omega))
  have TW : Hid (Two w2 (w.heap.size + 1) sb tb (fillR z (toL rn rp) (toL an ap) 0)) := Lib.hid ⟨pb, mb, lv, nils, gb, ob, lv', nils, HS2.out, HT2.out, fun i j b _ _ h => by cases h⟩
  clear HS HS2 hT HT2 b2 B1 p1 c0 n0 C2 n1
  go_wp2_with fail
  go_loopg [8] (min rn 1024) (fun g s8 wr => ∃ (i : Nat), i ≤ min rn 1024 ∧ g = min rn 1024 - i ∧ s8 = .int .i64 i ∧ Two wr (w.heap.size + 1) sb tb (fillR z (toL rn rp) (toL an ap) i) ∧ Below w.heap.size w wr ∧ Blk wr w.heap.size [.int .i64 z, .slice ra rn rcap, .slice aa an acap, .slice oa on ocap] 25)
  case atStart => exact ⟨0, Nat.zero_le _, rfl, rfl, TW.out, p2, B2⟩
  case round =>
    clear TW p2 B2
    obtain ⟨i, hi, rfl, rfl, tw, q, B⟩ := hrel
    have TW := Lib.hid tw
    have HB := Lib.hid B
    have c0 : wr.cell? ⟨w.heap.size, 0, none⟩ = some (.int .i64 z) := B.cell 0
    have c1 : wr.cell? ⟨w.heap.size, 1, none⟩ = some (.slice ra rn rcap) := B.cell 1
    have c2 : wr.cell? ⟨w.heap.size, 2, none⟩ = some (.slice aa an acap) := B.cell 2
    have nB := B.lt
    clear tw B
    by_cases hlt : i < min rn 1024
    · have hz1 : (i : Int) < (rn : Int) := by omega
      have hz2 : (i : Int) < 1024 := by omega
      have hw1 : IntKind.i64.wrap ((i : Int) + 1) = (i : Int) + 1 := Go.IntWalk.i64_in _ (by omega)
      obtain rfl := RA.out (by omega)
      have r1 := RR.out (by omega)
      have hrlt := r1.lt
      have hr0 := r1.c0 i (by omega)
      have hr1 := r1.c1 i (by omega)
      have hok := r1.ok i (by omega)
      have x1 : wr.cell? ⟨rb, ro + i * 2, none⟩ = some (.int .u64 (rp i).key) := (q.cell (p := ⟨rb, ro + (i * 2 + 0), none⟩) r1.lt).trans (r1.c0 i (by omega))
      have x2 : wr.cell? ⟨rb, ro + i * 2 + 1, none⟩ = some (.float .f64 (rp i).val) := (q.cell (p := ⟨rb, ro + (i * 2 + 1), none⟩) r1.lt).trans (r1.c1 i (by omega))
      have nR : rb < wr.heap.size := Nat.lt_of_lt_of_le r1.lt q.size
      have HST : Hid (prodS (fillR z (toL rn rp) (toL an ap) i) (idx (toL an ap) z i) (rp i) = fillR z (toL rn rp) (toL an ap) (i + 1)) := Lib.hid (by
        show _ = prodS _ _ ((toL rn rp).getD i ⟨0, 0⟩)
        rw [toL_getD (by omega)])
      have hpn0 : idx (toL an ap) z i < (fillR z (toL rn rp) (toL an ap) i).n := by rw [fillR_n]; exact idx_lt HZ.out.1 i
      by_cases hia : i < an
      · have hz3 : (i : Int) < (an : Int) := by omega
        obtain rfl := AA.out (by omega)
        have s1 := AR.out (by omega)
        have y1 : wr.cell? ⟨ab, ao + i, none⟩ = some (.int .i64 (ap i)) := (q.cell (p := ⟨ab, ao + i, none⟩) s1.lt).trans (s1.c i hia)
        have nA : ab < wr.heap.size := Nat.lt_of_lt_of_le s1.lt q.size
        have z0 := HZ.out.1
        have z4 := HZ.out.2
        have hidx : idx (toL an ap) z i = (ap i % 18446744073709551616 % z).toNat := by unfold idx; rw [toL_len, if_pos hia, toL_getD hia]
        have k1 : IntKind.u64.wrap z = z := by rw [IntKind.wrap_u64]; omega
        have k2 : IntKind.u64.wrap (ap i) = ap i % 18446744073709551616 := IntKind.wrap_u64 _
        have k3 : 0 ≤ ap i % 18446744073709551616 := Int.emod_nonneg _ (by decide)
        have k4 : Int.tmod (ap i % 18446744073709551616) z = ap i % 18446744073709551616 % z := tmod_pos k3
        have k5 := Int.emod_nonneg (ap i % 18446744073709551616) (show z ≠ 0 by omega)
        have k6 := Int.emod_lt_of_pos (ap i % 18446744073709551616) (show 0 < z by omega)
        have k7 : ap i % 18446744073709551616 % z = ((idx (toL an ap) z i : Nat) : Int) := by rw [hidx, Int.toNat_of_nonneg k5]
        rw [k7] at k4 k6
        have k8 : IntKind.u64.wrap ((idx (toL an ap) z i : Nat) : Int) = ((idx (toL an ap) z i : Nat) : Int) := by rw [IntKind.wrap_u64]; omega
        have k9 : IntKind.i64.wrap ((idx (toL an ap) z i : Nat) : Int) = ((idx (toL an ap) z i : Nat) : Int) := Go.IntWalk.i64_in _ (by omega)
        have k10 : (z == 0) = false := by simp; omega
        have k11 : ¬ z = 0 := by omega
        generalize idx (toL an ap) z i = pp at *
        generalize ap i % 18446744073709551616 = uu at *
        clear s1 k5 k7 hidx k3
        go_wp2_with fail
        refine wp_region_below (by kernel_rfl) (by kernel_rfl) ?_
        iterate 12 (first | (refine lex_skip (by rfl) (fun _ _ _ _ h => h) ?_; simp only [Act.put, List.setIfInBounds_toArray, List.set_cons_zero, List.set_cons_succ]) | (refine lex_op (by rfl) ?_; apply Exists.intro; refine ⟨?_, ?_⟩; ((intro _ _ _ _ hT; obtain ⟨hc, hf⟩ := bcell hT; go_simp; first | exact rfl | fail)); simp only [Act.put, List.setIfInBounds_toArray, List.set_cons_zero, List.set_cons_succ]))
        refine lex_nil ?_
        intro w5 bel5
        have q5 : Below w.heap.size w w5 := q.trans (bel5.mono q.size)
        have TW5 := Lib.hid (TW.out.keep bel5)
        have HB5 := Lib.hid (HB.out.below bel5)
        have hbase : w.heap.size + 1 ≤ w5.heap.size := Nat.le_trans nB bel5.size
        have hpn := hpn0
        have x1 : w5.cell? ⟨rb, ro + i * 2, none⟩ = some (.int .u64 (rp i).key) := (q5.cell (p := ⟨rb, ro + (i * 2 + 0), none⟩) hrlt).trans hr0
        have x2 : w5.cell? ⟨rb, ro + i * 2 + 1, none⟩ = some (.float .f64 (rp i).val) := (q5.cell (p := ⟨rb, ro + (i * 2 + 1), none⟩) hrlt).trans hr1
        have nR : rb < w5.heap.size := Nat.lt_of_lt_of_le hrlt q5.size
        have d1 : w5.cell? ⟨w.heap.size, 1, none⟩ = some (.slice (some ⟨rb, ro, none⟩) rn rcap) := HB5.out.cell 1
        have nB5 := HB5.out.lt
        clear bel5 TW HB c0 c1 c2 nB y1 nA q k1 k2 k4 k6 k8 k9 k10 k11 hpn0
        go_wp2_with fail
        refine (two_first TW5.out hbase hpn hok).mono ?_
        rintro e w6 ⟨⟨er, rfl⟩, half, b6⟩
        have q6 : Below w.heap.size w w6 := q5.trans (b6.mono (Nat.le_succ _))
        have HB6 : Hid (Blk w6 w.heap.size [.int .i64 z, .slice (some ⟨rb, ro, none⟩) rn rcap, .slice (some ⟨ab, ao, none⟩) an acap, .slice oa on ocap] 25) := Lib.hid (HB5.out.keep b6 (Nat.lt_succ_self _))
        have HALF := Lib.hid half
        have hb6 : w.heap.size + 1 ≤ w6.heap.size := Nat.le_trans hbase b6.size
        clear half b6 TW5 HB5
        have d1 : w6.cell? ⟨w.heap.size, 1, none⟩ = some (.slice (some ⟨rb, ro, none⟩) rn rcap) := HB6.out.cell 1
        have nB6 := HB6.out.lt
        have e1 : w6.cell? ⟨rb, ro + i * 2, none⟩ = some (.int .u64 (rp i).key) := (q6.cell (p := ⟨rb, ro + (i * 2 + 0), none⟩) hrlt).trans hr0
        have e2 : w6.cell? ⟨rb, ro + i * 2 + 1, none⟩ = some (.float .f64 (rp i).val) := (q6.cell (p := ⟨rb, ro + (i * 2 + 1), none⟩) hrlt).trans hr1
        have nR6 : rb < w6.heap.size := Nat.lt_of_lt_of_le hrlt q6.size
        clear x1 x2 nR
        go_wp2_with fail
        refine (two_second (r := rp i) HALF.out hb6 (prodS_n _ _ _) rfl hpn hok).mono ?_
        rintro e w7 ⟨⟨er2, rfl⟩, tw, b7⟩
        have q7 : Below w.heap.size w w7 := q6.trans (b7.mono (Nat.le_succ _))
        have HB7 := HB6.out.keep b7 (Nat.lt_succ_self _)
        rw [HST.out] at tw
        have TW7 := Lib.hid tw
        have HQ7 := Lib.hid q7
        have HB8 := Lib.hid HB7
        clear tw b7 HALF HB6 d1 e1 e2 nB6 nR6 q6 q7 HB7
        go_wp2_with fail
        go_roundg (min rn 1024 - (i + 1))
        case measure => omega
        case rel => exact ⟨i + 1, hlt, rfl, (by first | rfl | simp), TW7.out, HQ7.out, HB8.out⟩
      · have hz3 : ¬ (i : Int) < (an : Int) := by omega
        have hidx : idx (toL an ap) z i = 0 := by unfold idx; rw [toL_len, if_neg hia]
        have q5 := q
        have TW5 := TW
        have HB5 := HB
        have hbase : w.heap.size + 1 ≤ wr.heap.size := nB
        rw [hidx] at HST hpn0
        have hpn := hpn0
        clear TW HB hpn0 hidx hia q
        go_wp2_with fail
        refine (two_first TW5.out hbase hpn hok).mono ?_
        rintro e w6 ⟨⟨er, rfl⟩, half, b6⟩
        have q6 : Below w.heap.size w w6 := q5.trans (b6.mono (Nat.le_succ _))
        have HB6 : Hid (Blk w6 w.heap.size [.int .i64 z, .slice (some ⟨rb, ro, none⟩) rn rcap, .slice aa an acap, .slice oa on ocap] 25) := Lib.hid (HB5.out.keep b6 (Nat.lt_succ_self _))
        have HALF := Lib.hid half
        have hb6 : w.heap.size + 1 ≤ w6.heap.size := Nat.le_trans hbase b6.size
        clear half b6 TW5 HB5
        have d1 : w6.cell? ⟨w.heap.size, 1, none⟩ = some (.slice (some ⟨rb, ro, none⟩) rn rcap) := HB6.out.cell 1
        have nB6 := HB6.out.lt
        have e1 : w6.cell? ⟨rb, ro + i * 2, none⟩ = some (.int .u64 (rp i).key) := (q6.cell (p := ⟨rb, ro + (i * 2 + 0), none⟩) hrlt).trans hr0
        have e2 : w6.cell? ⟨rb, ro + i * 2 + 1, none⟩ = some (.float .f64 (rp i).val) := (q6.cell (p := ⟨rb, ro + (i * 2 + 1), none⟩) hrlt).trans hr1
        have nR6 : rb < w6.heap.size := Nat.lt_of_lt_of_le hrlt q6.size
        clear x1 x2 nR
        go_wp2_with fail
        refine (two_second (r := rp i) HALF.out hb6 (prodS_n _ _ _) rfl hpn hok).mono ?_
        rintro e w7 ⟨⟨er2, rfl⟩, tw, b7⟩
        have q7 : Below w.heap.size w w7 := q6.trans (b7.mono (Nat.le_succ _))
        have HB7 := HB6.out.keep b7 (Nat.lt_succ_self _)
        rw [HST.out] at tw
        have TW7 := Lib.hid tw
        have HQ7 := Lib.hid q7
        have HB8 := Lib.hid HB7
        clear tw b7 HALF HB6 d1 e1 e2 nB6 nR6 q6 q7 HB7
        go_wp2_with fail
        go_roundg (min rn 1024 - (i + 1))
        case measure => omega
        case rel => exact ⟨i + 1, hlt, rfl, (by first | rfl | simp), TW7.out, HQ7.out, HB8.out⟩
    · obtain rfl : i = min rn 1024 := by omega
      have HQ := Lib.hid q
      obtain ⟨S, hS⟩ : ∃ S, fillR z (toL rn rp) (toL an ap) (min rn 1024) = S := ⟨_, rfl⟩
      rw [hS] at TW
      have HSF := Lib.hid hS
      clear hS q
      by_cases hrn : rn ≤ 1024
      · have hmin : min rn 1024 = rn := by omega
        have hz1 : ¬ ((rn : Int) < (rn : Int)) := by omega
        rw [show (((min rn 1024 : Nat)) : Int) = (rn : Int) by rw [hmin]]
        clear hmin hlt hi
        go_wp2_with fail
        go_loopg [10] on (fun g s10 wr => ∃ (j : Nat), j ≤ on ∧ g = on - j ∧ s10 = .int .i64 j ∧ Two wr (w.heap.size + 1) sb tb (fillO S (toL on op) j) ∧ Below w.heap.size w wr ∧ Blk wr w.heap.size [.int .i64 z, .slice ra rn rcap, .slice aa an acap, .slice oa on ocap] 25)
        case atStart => exact ⟨0, Nat.zero_le _, rfl, rfl, TW.out, HQ.out, HB.out⟩
        case round =>
          clear TW HQ HB
          obtain ⟨j, hj, rfl, rfl, tw, q, B⟩ := hrel
          have TW := Lib.hid tw
          have HB := Lib.hid B
          have c3 : wr.cell? ⟨w.heap.size, 3, none⟩ = some (.slice oa on ocap) := B.cell 3
          have nB := B.lt
          have hbase : w.heap.size + 1 ≤ wr.heap.size := nB
          clear tw B
          by_cases hjl : j < on
          · have hz3 : (j : Int) < (on : Int) := by omega
            have hw1 : IntKind.i64.wrap ((j : Int) + 1) = (j : Int) + 1 := Go.IntWalk.i64_in _ (by have := OM.out; omega)
            obtain rfl := OA.out (by omega)
            have o1 := OR.out (by omega)
            have holt := o1.lt
            have ho0 := o1.c j hjl
            have y1 : wr.cell? ⟨ob', oo + j, none⟩ = some (.int .i64 (op j)) := (q.cell (p := ⟨ob', oo + j, none⟩) o1.lt).trans (o1.c j hjl)
            have nO : ob' < wr.heap.size := Nat.lt_of_lt_of_le o1.lt q.size
            have HST : Hid ((fillO S (toL on op) j).sw (op j) false = fillO S (toL on op) (j + 1)) := Lib.hid (by
              show _ = (fillO S (toL on op) j).sw ((toL on op).getD j 0) false
              rw [toL_getD hjl])
            clear o1
            go_wp2_with fail
            refine (two_off TW.out hbase).mono ?_
            rintro e w6 ⟨⟨er, rfl⟩, half, b6⟩
            have q6 : Below w.heap.size w w6 := q.trans (b6.mono (Nat.le_succ _))
            have HB6 := Lib.hid (HB.out.keep b6 (Nat.lt_succ_self _))
            have HALF := Lib.hid half
            have hb6 : w.heap.size + 1 ≤ w6.heap.size := Nat.le_trans hbase b6.size
            have d3 : w6.cell? ⟨w.heap.size, 3, none⟩ = some (.slice (some ⟨ob', oo, none⟩) on ocap) := HB6.out.cell 3
            have nB6 := HB6.out.lt
            have e1 : w6.cell? ⟨ob', oo + j, none⟩ = some (.int .i64 (op j)) := (q6.cell (p := ⟨ob', oo + j, none⟩) holt).trans ho0
            have nO6 : ob' < w6.heap.size := Nat.lt_of_lt_of_le holt q6.size
            clear half b6 TW HB y1 nO c3 nB q
            go_wp2_with fail
            refine (two_off2 HALF.out rfl hb6).mono ?_
            rintro e w7 ⟨⟨er2, rfl⟩, tw, b7⟩
            have q7 : Below w.heap.size w w7 := q6.trans (b7.mono (Nat.le_succ _))
            have HB7 := HB6.out.keep b7 (Nat.lt_succ_self _)
            rw [HST.out] at tw
            have TW7 := Lib.hid tw
            have HQ7 := Lib.hid q7
            have HB8 := Lib.hid HB7
            clear tw b7 HALF HB6 d3 e1 nB6 nO6 q6 q7 HB7
            go_wp2_with fail
            go_roundg (on - (j + 1))
            case measure => omega
            case rel => exact ⟨j + 1, hjl, rfl, (by first | rfl | simp), TW7.out, HQ7.out, HB8.out⟩
          · obtain rfl : j = on := by omega
            have hz3 : ¬ (j : Int) < (j : Int) := by omega
            have HFL : Hid (Two wr (w.heap.size + 1) sb tb (fill z (toL rn rp) (toL an ap) (toL j op))) := Lib.hid (by
              unfold fill
              rw [toL_len, toL_len, HSF.out]
              exact TW.out)
            have HQ := Lib.hid q
            clear TW HB q
            go_wp2_with fail
            go_ret2
            exact ⟨sb, tb, rfl, HFL.out, HQ.out⟩
      · have hmin : min rn 1024 = 1024 := by omega
        have hz1 : (1024 : Int) < (rn : Int) := by omega
        rw [show (((min rn 1024 : Nat)) : Int) = (1024 : Int) by rw [hmin]; rfl]
        clear hmin hlt hi
        go_wp2_with fail
        go_loopg [10] on (fun g s10 wr => ∃ (j : Nat), j ≤ on ∧ g = on - j ∧ s10 = .int .i64 j ∧ Two wr (w.heap.size + 1) sb tb (fillO S (toL on op) j) ∧ Below w.heap.size w wr ∧ Blk wr w.heap.size [.int .i64 z, .slice ra rn rcap, .slice aa an acap, .slice oa on ocap] 25)
        case atStart => exact ⟨0, Nat.zero_le _, rfl, rfl, TW.out, HQ.out, HB.out⟩
        case round =>
          clear TW HQ HB
          obtain ⟨j, hj, rfl, rfl, tw, q, B⟩ := hrel
          have TW := Lib.hid tw
          have HB := Lib.hid B
          have c3 : wr.cell? ⟨w.heap.size, 3, none⟩ = some (.slice oa on ocap) := B.cell 3
          have nB := B.lt
          have hbase : w.heap.size + 1 ≤ wr.heap.size := nB
          clear tw B
          by_cases hjl : j < on
          · have hz3 : (j : Int) < (on : Int) := by omega
            have hw1 : IntKind.i64.wrap ((j : Int) + 1) = (j : Int) + 1 := Go.IntWalk.i64_in _ (by have := OM.out; omega)
            obtain rfl := OA.out (by omega)
            have o1 := OR.out (by omega)
            have holt := o1.lt
            have ho0 := o1.c j hjl
            have y1 : wr.cell? ⟨ob', oo + j, none⟩ = some (.int .i64 (op j)) := (q.cell (p := ⟨ob', oo + j, none⟩) o1.lt).trans (o1.c j hjl)
            have nO : ob' < wr.heap.size := Nat.lt_of_lt_of_le o1.lt q.size
            have HST : Hid ((fillO S (toL on op) j).sw (op j) false = fillO S (toL on op) (j + 1)) := Lib.hid (by
              show _ = (fillO S (toL on op) j).sw ((toL on op).getD j 0) false
              rw [toL_getD hjl])
            clear o1
            go_wp2_with fail
            refine (two_off TW.out hbase).mono ?_
            rintro e w6 ⟨⟨er, rfl⟩, half, b6⟩
            have q6 : Below w.heap.size w w6 := q.trans (b6.mono (Nat.le_succ _))
            have HB6 := Lib.hid (HB.out.keep b6 (Nat.lt_succ_self _))
            have HALF := Lib.hid half
            have hb6 : w.heap.size + 1 ≤ w6.heap.size := Nat.le_trans hbase b6.size
            have d3 : w6.cell? ⟨w.heap.size, 3, none⟩ = some (.slice (some ⟨ob', oo, none⟩) on ocap) := HB6.out.cell 3
            have nB6 := HB6.out.lt
            have e1 : w6.cell? ⟨ob', oo + j, none⟩ = some (.int .i64 (op j)) := (q6.cell (p := ⟨ob', oo + j, none⟩) holt).trans ho0
            have nO6 : ob' < w6.heap.size := Nat.lt_of_lt_of_le holt q6.size
            clear half b6 TW HB y1 nO c3 nB q
            go_wp2_with fail
            refine (two_off2 HALF.out rfl hb6).mono ?_
            rintro e w7 ⟨⟨er2, rfl⟩, tw, b7⟩
            have q7 : Below w.heap.size w w7 := q6.trans (b7.mono (Nat.le_succ _))
            have HB7 := HB6.out.keep b7 (Nat.lt_succ_self _)
            rw [HST.out] at tw
            have TW7 := Lib.hid tw
            have HQ7 := Lib.hid q7
            have HB8 := Lib.hid HB7
            clear tw b7 HALF HB6 d3 e1 nB6 nO6 q6 q7 HB7
            go_wp2_with fail
            go_roundg (on - (j + 1))
            case measure => omega
            case rel => exact ⟨j + 1, hjl, rfl, (by first | rfl | simp), TW7.out, HQ7.out, HB8.out⟩
          · obtain rfl : j = on := by omega
            have hz3 : ¬ (j : Int) < (j : Int) := by omega
            have HFL : Hid (Two wr (w.heap.size + 1) sb tb (fill z (toL rn rp) (toL an ap) (toL j op))) := Lib.hid (by
              unfold fill
              rw [toL_len, toL_len, HSF.out]
              exact TW.out)
            have HQ := Lib.hid q
            clear TW HB q
            go_wp2_with fail
            go_ret2
            exact ⟨sb, tb, rfl, HFL.out, HQ.out⟩
end Go.Proofs.Ytbckfoldjlgabaa
namespace Go.Proofs.Ytbckfoldjlgabaa
open Go.RowKit Go.Maps
open Fl (nan key canon)
theorem lit_ints {W : World} {b n : Nat} (l : List Int) (hl : l.length = n) (hn : n ≤ 100) (hok : ∀ x, x ∈ l → -9223372036854775808 ≤ x ∧ x ≤ 9223372036854775807) (hB : Blk W b (l.map (Value.int .i64)) 3) : Ints W (.slice (some ⟨b, 0, none⟩) n n) l := by
  refine ⟨_, n, n, b, 0, fun i => l.getD i 0, rfl, by rw [← hl]; exact toL_of 0 l, fun _ => rfl, fun _ => ⟨hB.lt, fun i hi => hok _ (by rw [List.getD_eq_getElem?_getD, List.getElem?_eq_getElem (by omega)]; exact List.getElem_mem ..), fun i hi => ?_⟩, Nat.le_refl _, by unfold maxLen; omega, by omega⟩
  rw [Nat.zero_add, hB.cell, List.getElem?_map, List.getElem?_eq_getElem (by omega), List.getD_eq_getElem?_getD, List.getElem?_eq_getElem (by omega)]
  rfl
theorem lit_recs {W : World} {b n : Nat} (l : List Rc) (hl : l.length = n) (hn : n ≤ 100) (hok : ∀ x, x ∈ l → x.ok) (hB : Blk W b (flat (rcc (fun i => l.getD i ⟨0, 0⟩)) n) 66) : Recs W (.slice (some ⟨b, 0, none⟩) n n) l :=
  ⟨_, n, n, b, 0, fun i => l.getD i ⟨0, 0⟩, rfl, by rw [← hl]; exact toL_of _ l, fun _ => rfl, fun _ => (hB.flat (rcc_len _) (Nat.le_refl _)).rcs (fun i hi => hok _ (by rw [List.getD_eq_getElem?_getD, List.getElem?_eq_getElem (by omega)]; exact List.getElem_mem ..)), Nat.le_refl _, by unfold maxLen; omega, by omega⟩
def r4 : List Rc := [⟨1, 0⟩, ⟨2, 0⟩, ⟨3, 0⟩, ⟨4, 0⟩]
def sAw : St := fill 2 r4 [0, 0, 0, 1] []
theorem aw_form : form sAw [0, 0] 2 = ([2, 1], [⟨1, 0⟩, ⟨2, 0⟩, ⟨4, 0⟩], 0) := by kernel_rfl
theorem aw_again : again sAw [1, 0] [3, 1] = ([⟨2, 0⟩, ⟨3, 0⟩, ⟨4, 0⟩], 0) := by kernel_rfl
theorem aw_left : left sAw [1, 0] = (3, 0) := by kernel_rfl
theorem rc_dec {l : List Rc} (h : l.all (fun r => decide (0 ≤ r.key) && decide (r.key ≤ 18446744073709551615) && decide (r.val < 2 ^ 64)) = true) : ∀ x, x ∈ l → x.ok := by
  intro x hx
  have := List.all_eq_true.1 h x hx
  simp only [Bool.and_eq_true, decide_eq_true_eq] at this
  exact ⟨this.1.1, this.1.2, this.2⟩
theorem ints_true {v v' : Value} {l : List Int} (w : World) (h : Ints w v l) (h' : Ints w v' l) : Calls Try.prog 14 #[v, v'] w fun e w' => e = .returned (.bool true) ∧ Below w.heap.size w w' := by
  have := ints_any w h h'
  rwa [show eqI l l = true from decide_eq_true rfl] at this
theorem records_true {v v' : Value} {l : List Rc} (w : World) (h : Recs w v l) (h' : Recs w v' l) : Calls Try.prog 15 #[v, v'] w fun e w' => e = .returned (.bool true) ∧ Below w.heap.size w w' := by
  have := records_any w h h'
  rwa [show eqR l l = true from decide_eq_true rfl] at this
set_option maxRecDepth 100000 in
set_option maxHeartbeats 8000000 in
theorem pawake_any (w : World) : Calls Try.prog 10 #[] w fun e w' => e = .returned (.bool true) ∧ Below w.heap.size w w' := by
  have C0 := Lib.hid (fun W rv av ov (hr : Recs W rv r4) (ha : Ints W av [0, 0, 0, 1]) (ho : Ints W ov []) => filled_any hr ha ho (show (1 : Int) ≤ 2 by decide) (show (2 : Int) ≤ 4 by decide))
  go_enter Try.func10, Try.ntmps10
  go_wp2_with fail
  refine (C0.out _ _ _ _ (lit_recs r4 rfl (by decide) (rc_dec rfl) (show Blk _ _ [.int .u64 1, .float .f64 0, .int .u64 2, .float .f64 0, .int .u64 3, .float .f64 0, .int .u64 4, .float .f64 0] _ from (by repeat' (first | with_reducible assumption | (show (_ : List Value) = _; rfl) | with_reducible exact Blk.new _ _ rfl | (with_reducible refine Blk.new _ _ ?_; simp; done) | with_reducible apply Blk.set_eq | with_reducible apply Blk.other | with_reducible apply Blk.alloc | with_reducible apply Blk.drew | (simp; done) | (simp; omega))))) (lit_ints [0, 0, 0, 1] rfl (by decide) (by decide) (show Blk _ _ [.int .i64 0, .int .i64 0, .int .i64 0, .int .i64 1] _ from (by repeat' (first | with_reducible assumption | (show (_ : List Value) = _; rfl) | with_reducible exact Blk.new _ _ rfl | (with_reducible refine Blk.new _ _ ?_; simp; done) | with_reducible apply Blk.set_eq | with_reducible apply Blk.other | with_reducible apply Blk.alloc | with_reducible apply Blk.drew | (simp; done) | (simp; omega))))) (Ints.nil _)).mono ?_
  rintro e w1 ⟨sb, tb, rfl, two, b1⟩
  have p1 : Below w.heap.size w w1 := (by repeat' (first | with_reducible exact Below.refl _ _ | with_reducible assumption | with_reducible refine bel_drew ?_ | with_reducible refine bel_alloc ?_ _ | with_reducible refine bel_set ?_ ?_ _ | with_reducible refine bel_call ?_ (by assumption) | (dsimp only; omega) | (simp; done) | (simp; omega)))
  obtain ⟨pb, mb, lv, lg, gb, ob, lv', lg', hS, _, _⟩ := two.out
  have src : Src w1 sb pb lv (.map (some mb)) lg sAw := hS.src
  have CF := Lib.hid (fun W v (hW : Below w1.heap.size w1 W) (h : Ints W v [0, 0]) => sform_any (k := 2) (src.keep hW) h)
  have CA := Lib.hid (fun W v v' (hW : Below w1.heap.size w1 W) (h : Ints W v [1, 0]) (h' : Ints W v' [3, 1]) => sagain_any (src.keep hW) h h')
  have CL := Lib.hid (fun W v (hW : Below w1.heap.size w1 W) (h : Ints W v [1, 0]) => sleft_any (src.keep hW) h)
  rw [aw_form] at CF
  rw [aw_again] at CA
  rw [aw_left] at CL
  dsimp only at CF CA CL
  clear two hS src b1 C0
  have n1 := p1.size
  go_wp2_with fail
  refine (CF.out _ _ (bel_alloc1 _ _) (lit_ints [0, 0] rfl (by decide) (by decide) (show Blk _ _ [.int .i64 0, .int .i64 0] _ from (by repeat' (first | with_reducible assumption | (show (_ : List Value) = _; rfl) | with_reducible exact Blk.new _ _ rfl | (with_reducible refine Blk.new _ _ ?_; simp; done) | with_reducible apply Blk.set_eq | with_reducible apply Blk.other | with_reducible apply Blk.alloc | with_reducible apply Blk.drew | (simp; done) | (simp; omega)))))).mono ?_
  rintro e w2 ⟨r, r', rfl, o1, o2, b2⟩
  have p2 : Below w1.heap.size w1 w2 := (by repeat' (first | with_reducible exact Below.refl _ _ | with_reducible assumption | with_reducible refine bel_drew ?_ | with_reducible refine bel_alloc ?_ _ | with_reducible refine bel_set ?_ ?_ _ | with_reducible refine bel_call ?_ (by assumption) | (dsimp only; omega) | (simp; done) | (simp; omega)))
  have O1 := Lib.hid o1
  have O2 := Lib.hid o2
  clear o1 o2 b2 CF
  have n2 := p2.size
  go_wp2_with fail
  refine (CA.out _ _ _ (p2.trans (((bel_alloc1 _ _).trans ((bel_alloc1 _ _).mono (by simp))).mono n2)) (lit_ints [1, 0] rfl (by decide) (by decide) (show Blk _ _ [.int .i64 1, .int .i64 0] _ from (by repeat' (first | with_reducible assumption | (show (_ : List Value) = _; rfl) | with_reducible exact Blk.new _ _ rfl | (with_reducible refine Blk.new _ _ ?_; simp; done) | with_reducible apply Blk.set_eq | with_reducible apply Blk.other | with_reducible apply Blk.alloc | with_reducible apply Blk.drew | (simp; done) | (simp; omega))))) (lit_ints [3, 1] rfl (by decide) (by decide) (show Blk _ _ [.int .i64 3, .int .i64 1] _ from (by repeat' (first | with_reducible assumption | (show (_ : List Value) = _; rfl) | with_reducible exact Blk.new _ _ rfl | (with_reducible refine Blk.new _ _ ?_; simp; done) | with_reducible apply Blk.set_eq | with_reducible apply Blk.other | with_reducible apply Blk.alloc | with_reducible apply Blk.drew | (simp; done) | (simp; omega)))))).mono ?_
  rintro e w3 ⟨ra, rfl, o3, b3⟩
  have b23 : Below w2.heap.size w2 w3 := (by repeat' (first | with_reducible exact Below.refl _ _ | with_reducible assumption | with_reducible refine bel_drew ?_ | with_reducible refine bel_alloc ?_ _ | with_reducible refine bel_set ?_ ?_ _ | with_reducible refine bel_call ?_ (by assumption) | (dsimp only; omega) | (simp; done) | (simp; omega)))
  have p3 : Below w1.heap.size w1 w3 := p2.trans (b23.mono n2)
  have I1 := Lib.hid (O1.out.ints.keep b23)
  have I2 := Lib.hid (O2.out.recs.keep b23)
  have I3 := Lib.hid o3.recs
  have n3 := p3.size
  clear o3 b3 O1 O2 CA b23 p2 n2
  go_wp2_with fail
  refine (CL.out _ _ (p3.trans ((bel_alloc1 _ _).mono n3)) (lit_ints [1, 0] rfl (by decide) (by decide) (show Blk _ _ [.int .i64 1, .int .i64 0] _ from (by repeat' (first | with_reducible assumption | (show (_ : List Value) = _; rfl) | with_reducible exact Blk.new _ _ rfl | (with_reducible refine Blk.new _ _ ?_; simp; done) | with_reducible apply Blk.set_eq | with_reducible apply Blk.other | with_reducible apply Blk.alloc | with_reducible apply Blk.drew | (simp; done) | (simp; omega)))))).mono ?_
  rintro e w4 ⟨rfl, rfl⟩
  clear CL
  go_wp2_with fail
  refine (ints_true _ (I1.out.keep (by repeat' (first | with_reducible exact Below.refl _ _ | with_reducible assumption | with_reducible refine bel_drew ?_ | with_reducible refine bel_alloc ?_ _ | with_reducible refine bel_set ?_ ?_ _ | with_reducible refine bel_call ?_ (by assumption) | (dsimp only; omega) | (simp; done) | (simp; omega)))) (lit_ints [2, 1] rfl (by decide) (by decide) (show Blk _ _ [.int .i64 2, .int .i64 1] _ from (by repeat' (first | with_reducible assumption | (show (_ : List Value) = _; rfl) | with_reducible exact Blk.new _ _ rfl | (with_reducible refine Blk.new _ _ ?_; simp; done) | with_reducible apply Blk.set_eq | with_reducible apply Blk.other | with_reducible apply Blk.alloc | with_reducible apply Blk.drew | (simp; done) | (simp; omega)))))).mono ?_
  rintro e w5 ⟨rfl, b5⟩
  have b35 : Below w3.heap.size w3 w5 := (by repeat' (first | with_reducible exact Below.refl _ _ | with_reducible assumption | with_reducible refine bel_drew ?_ | with_reducible refine bel_alloc ?_ _ | with_reducible refine bel_set ?_ ?_ _ | with_reducible refine bel_call ?_ (by assumption) | (dsimp only; omega) | (simp; done) | (simp; omega)))
  have p5 : Below w.heap.size w w5 := (p1.trans (p3.mono n1)).trans (b35.mono (Nat.le_trans n1 n3))
  have J2 := Lib.hid (I2.out.keep b35)
  have J3 := Lib.hid (I3.out.keep b35)
  clear I1 I2 I3 b5 b35 p3 p1 n3 n1
  go_wp2_with fail
  refine (records_true _ (J2.out.keep (by repeat' (first | with_reducible exact Below.refl _ _ | with_reducible assumption | with_reducible refine bel_drew ?_ | with_reducible refine bel_alloc ?_ _ | with_reducible refine bel_set ?_ ?_ _ | with_reducible refine bel_call ?_ (by assumption) | (dsimp only; omega) | (simp; done) | (simp; omega)))) (lit_recs [⟨1, 0⟩, ⟨2, 0⟩, ⟨4, 0⟩] rfl (by decide) (rc_dec rfl) (show Blk _ _ [.int .u64 1, .float .f64 0, .int .u64 2, .float .f64 0, .int .u64 4, .float .f64 0] _ from (by repeat' (first | with_reducible assumption | (show (_ : List Value) = _; rfl) | with_reducible exact Blk.new _ _ rfl | (with_reducible refine Blk.new _ _ ?_; simp; done) | with_reducible apply Blk.set_eq | with_reducible apply Blk.other | with_reducible apply Blk.alloc | with_reducible apply Blk.drew | (simp; done) | (simp; omega)))))).mono ?_
  rintro e w6 ⟨rfl, b6⟩
  have b56 : Below w5.heap.size w5 w6 := (by repeat' (first | with_reducible exact Below.refl _ _ | with_reducible assumption | with_reducible refine bel_drew ?_ | with_reducible refine bel_alloc ?_ _ | with_reducible refine bel_set ?_ ?_ _ | with_reducible refine bel_call ?_ (by assumption) | (dsimp only; omega) | (simp; done) | (simp; omega)))
  have p6 : Below w.heap.size w w6 := p5.trans (b56.mono p5.size)
  have K3 := Lib.hid (J3.out.keep b56)
  clear J2 J3 b6 b56 p5
  go_wp2_with fail
  refine (records_true _ (K3.out.keep (by repeat' (first | with_reducible exact Below.refl _ _ | with_reducible assumption | with_reducible refine bel_drew ?_ | with_reducible refine bel_alloc ?_ _ | with_reducible refine bel_set ?_ ?_ _ | with_reducible refine bel_call ?_ (by assumption) | (dsimp only; omega) | (simp; done) | (simp; omega)))) (lit_recs [⟨2, 0⟩, ⟨3, 0⟩, ⟨4, 0⟩] rfl (by decide) (rc_dec rfl) (show Blk _ _ [.int .u64 2, .float .f64 0, .int .u64 3, .float .f64 0, .int .u64 4, .float .f64 0] _ from (by repeat' (first | with_reducible assumption | (show (_ : List Value) = _; rfl) | with_reducible exact Blk.new _ _ rfl | (with_reducible refine Blk.new _ _ ?_; simp; done) | with_reducible apply Blk.set_eq | with_reducible apply Blk.other | with_reducible apply Blk.alloc | with_reducible apply Blk.drew | (simp; done) | (simp; omega)))))).mono ?_
  rintro e w7 ⟨rfl, b7⟩
  have b67 : Below w6.heap.size w6 w7 := (by repeat' (first | with_reducible exact Below.refl _ _ | with_reducible assumption | with_reducible refine bel_drew ?_ | with_reducible refine bel_alloc ?_ _ | with_reducible refine bel_set ?_ ?_ _ | with_reducible refine bel_call ?_ (by assumption) | (dsimp only; omega) | (simp; done) | (simp; omega)))
  have p7 : Below w.heap.size w w7 := p6.trans (b67.mono p6.size)
  clear K3 b7 b67 p6
  go_wp2_with fail
  have CW := Lib.hid (fun W v v' (h : Ints W v [1]) (h' : Ints W v' [2]) => forward_any W h h')
  rw [show fwd [1] [2] = true from by decide] at CW
  refine (CW.out _ _ _ (lit_ints [1] rfl (by decide) (by decide) (show Blk _ _ [.int .i64 1] _ from (by repeat' (first | with_reducible assumption | (show (_ : List Value) = _; rfl) | with_reducible exact Blk.new _ _ rfl | (with_reducible refine Blk.new _ _ ?_; simp; done) | with_reducible apply Blk.set_eq | with_reducible apply Blk.other | with_reducible apply Blk.alloc | with_reducible apply Blk.drew | (simp; done) | (simp; omega))))) (lit_ints [2] rfl (by decide) (by decide) (show Blk _ _ [.int .i64 2] _ from (by repeat' (first | with_reducible assumption | (show (_ : List Value) = _; rfl) | with_reducible exact Blk.new _ _ rfl | (with_reducible refine Blk.new _ _ ?_; simp; done) | with_reducible apply Blk.set_eq | with_reducible apply Blk.other | with_reducible apply Blk.alloc | with_reducible apply Blk.drew | (simp; done) | (simp; omega)))))).mono ?_
  rintro e w8 ⟨rfl, b8⟩
  have p8 : Below w.heap.size w w8 := (by repeat' (first | with_reducible exact Below.refl _ _ | with_reducible assumption | with_reducible refine bel_drew ?_ | with_reducible refine bel_alloc ?_ _ | with_reducible refine bel_set ?_ ?_ _ | with_reducible refine bel_call ?_ (by assumption) | (dsimp only; omega) | (simp; done) | (simp; omega)))
  clear b8 p7 CW
  go_wp2_with fail
  go_ret
  exact ⟨rfl, p8⟩
end Go.Proofs.Ytbckfoldjlgabaa
