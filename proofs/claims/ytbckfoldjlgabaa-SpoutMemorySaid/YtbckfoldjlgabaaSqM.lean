/- WALK of SpoutMemory. -/
import Derived.Test.YtbckfoldjlgabaaSqF
namespace Go.Proofs.Ytbckfoldjlgabaa
open Go.RowKit Go.Maps
open Fl (nan key canon)
set_option maxRecDepth 100000 in
theorem run_mine_hi (g n N : Nat) (hn : n + 4 = N) (W : World) : (Instr.sliceAt 23 (.slice (some ⟨g, 0, none⟩) (n + 4) N) (some (.int .i64 n)) none none).run Try.prog W = .ok (.slice (some ⟨g, n, none⟩) 4 4) W := by
  rw [run_sliceAt_slice _ _ _ _ _ _ Try.underlying23, run_slice_l _ _ _ _ _ Try.underlying23 _ _ (by omega) (by omega)]
  refine (congrArg (fun r => r.andThen fun s w => Result.ok (sliced (some ⟨g, 0, none⟩) (n : Int).toNat (n + 4) N s) w) (Try.sizeOf3 W)).trans ?_
  show Result.ok (sliced (some ⟨g, 0, none⟩) n (n + 4) N 1) W = _
  unfold sliced
  rw [if_neg (by omega), Option.map_some, Nat.mul_one, addr_add, Nat.zero_add, show N - n = 4 by omega, show n + 4 - n = 4 by omega]
theorem lies71 (w : World) : Lies (w.alloc (.cells #[.int .i64 71, .int .i64 72, .int .i64 73, .int .i64 74] 3)) w.heap.size 0 1 (inc (fun i => ([71, 72, 73, 74] : List Int).getD i 0)) 4 :=
  Blk.flat (N := 4) (t := 3) (Blk.new [.int .i64 71, .int .i64 72, .int .i64 73, .int .i64 74] _ rfl) (fun _ => rfl) (Nat.le_refl _)
theorem Upd.trans2 {w w' w'' : World} {X Y Z : Nat → Prop} (h : Upd w w' X) (k : Upd w' w'' Y) (h1 : ∀ b, X b → Z b) (h2 : ∀ b, Y b → Z b) : Upd w w'' Z :=
  ⟨k.os.trans h.os, k.tape.trans h.tape, k.output.trans h.output, Nat.le_trans h.size k.size, fun b hb hx => (k.block b (Nat.lt_of_lt_of_le hb h.size) (fun hy => hx (h2 b hy))).trans (h.block b hb (fun hy => hx (h1 b hy)))⟩
theorem upd_app {w w' : World} {v : Value} {o : Obj} (g : (w.alloc o).grownBy w' v.ownBlock) : Upd w w' (fun k => v.ownBlock = some k) :=
  (Upd.of_below (bel_alloc1 _ _)).trans (Upd.of_grown g (fun _ h => h)) (fun _ _ h => h)
theorem form_len {s : St} {l : List Int} {k : Int} (hs : s.ok) : (form s l k).1.length ≤ 4 ∧ (form s l k).2.1.length ≤ 1024 := by
  have := hs.n4
  unfold form
  split
  · simp
  · split
    · have h := betw_len hs l (tos s l k) (n := s.n) (Nat.le_refl _)
      refine ⟨?_, ?_⟩
      · show (tos s l k).length ≤ 4
        unfold tos; rw [toL_len]; exact this
      · show (betw s l (tos s l k) s.n).length ≤ 1024
        omega
    · simp
theorem form_good {s : St} {l : List Int} {k : Int} (hs : s.ok) (h0 : 1 ≤ k) (h1 : k ≤ 16) (h : (form s l k).2.2 = 0) : l.length ≤ 4 ∧ fwd l (form s l k).1 = true ∧ (∀ i, i < l.length → 0 ≤ l.getD i 0) ∧ (form s l k).1.length = l.length := by
  have := hs.n4
  unfold form at *
  rw [if_neg (by omega)] at *
  by_cases hf : fits s l = true
  · rw [if_pos hf] at *
    have hf := of_decide_eq_true hf
    have e : (tos s l k).length = l.length := by unfold tos; rw [toL_len]; exact hf.1.symm
    refine ⟨by omega, decide_eq_true ⟨e.symm, fun i hi => ?_⟩, fun i hi => (hf.2 i hi).1, e⟩
    show l.getD i 0 ≤ (tos s l k).getD i 0
    unfold tos
    rw [toL_getD (by omega)]
    exact (nxt_ok hs h0 h1 (by omega) (hf.2 i hi)).2.1
  · rw [if_neg hf] at h
    cases h
/-- what the operations of 't := Triple{Batch: 1, Prev: make(..), Cur: mine[:n]}' make -/
def StN (N n : Nat) (vs : Value) (i : Nat) (u : Value) (w : World) : Prop :=
  (i = 1 → ∃ a, u = .slice a n n ∧ OwnI w N u (toL n (fun _ => 0))) ∧
  (i = 5 → ∃ a, u = .agg #[.int .i64 1, .slice a n n, vs] ∧ OwnI w N (.slice a n n) (toL n (fun _ => 0))) ∧
  (i = 6 → ∃ b, u = .pointer (some ⟨b, 0, none⟩) ∧ N ≤ b ∧ Blk w b [.int .i64 0, .slice none 0 0, .slice none 0 0] 54)
def FinN (N n : Nat) (vs u : Value) (w' : World) : Prop := ∃ b a, u = .pointer (some ⟨b, 0, none⟩) ∧ N ≤ b ∧ Blk w' b [.int .i64 1, .slice a n n, vs] 54 ∧ OwnI w' N (.slice a n n) (toL n (fun _ => 0))
theorem StN.keep (N n : Nat) (vs : Value) (i : Nat) (u : Value) (w w' : World) (hb : Below w.heap.size w w') (h : StN N n vs i u w) : StN N n vs i u w' :=
  ⟨fun e => let ⟨a, h1, h2⟩ := h.1 e; ⟨a, h1, h2.keep hb⟩, fun e => let ⟨a1, h1, h2⟩ := h.2.1 e; ⟨a1, h1, h2.keep hb⟩, fun e => let ⟨b, h1, h2, h3⟩ := h.2.2 e; ⟨b, h1, h2, h3.below hb⟩⟩
theorem StN.none {N n i : Nat} {vs : Value} (u : Value) (w : World) (h : i ≠ 1 ∧ i ≠ 5 ∧ i ≠ 6) : StN N n vs i u w :=
  ⟨fun e => absurd e (by omega), fun e => absurd e (by omega), fun e => absurd e (by omega)⟩
theorem rightT_one {n : Nat} {L : List Int} (hn : L.length = n) (h : ∀ i, i < L.length → 0 ≤ L.getD i 0) : rightT 1 (toL n (fun _ => 0)) L = true := by
  rw [toL_of 0 L, hn, rightT_toL]
  exact decide_eq_true ⟨by omega, fun i hi => h i (by omega), fun i _ => ⟨by omega, fun e => by omega⟩⟩
set_option maxRecDepth 100000 in
set_option maxHeartbeats 16000000 in
theorem lmemory_any {z k : Int} {rv av ov v : Value} {rl : List Rc} {al ol l : List Int} {w : World} (hr : Recs w rv rl) (ha : Ints w av al) (ho : Ints w ov ol) (hv : Ints w v l) :
    Calls Try.prog 9 #[.agg #[.int .i64 z, rv, av, ov], v, .int .i64 k] w fun e w' => e = .returned (.bool true) ∧ Below w.heap.size w w' := by
  have C0 := Lib.hid (fun W => pawake_any W)
  have C2 := Lib.hid (fun W (hW : Below w.heap.size w W) (h1 : 1 ≤ z) (h4 : z ≤ 4) => filled_any (z := z) (hr.keep hW) (ha.keep hW) (ho.keep hW) h1 h4)
  have C3 := Lib.hid (fun W (hW : Below w.heap.size w W) (h : z < 1 ∨ 4 < z) => filled_none (z := z) (hr.keep hW) (ha.keep hW) (ho.keep hW) h)
  have HV := Lib.hid hv
  obtain ⟨ra, rn, rcap, _, _, _, rfl, -⟩ := hr
  obtain ⟨aa, an, acap, _, _, _, rfl, -⟩ := ha
  obtain ⟨oa, on, ocap, _, _, _, rfl, -⟩ := ho
  obtain ⟨va, n, vc, vb, vo, p, rfl, rfl, hva, hvr, hvc, hvm⟩ := hv
  obtain ⟨kk, hkk⟩ : ∃ kk : Int, k % 18446744073709551616 % 16 = kk := ⟨_, rfl⟩
  have k0 : 0 ≤ kk := by omega
  have k1 : kk ≤ 15 := by omega
  have k2 : IntKind.u64.wrap k = k % 18446744073709551616 := IntKind.wrap_u64 _
  have k3 : 0 ≤ k % 18446744073709551616 := Int.emod_nonneg _ (by decide)
  have k4 : Int.tmod (k % 18446744073709551616) 16 = kk := (tmod_pos k3).trans hkk
  have k8 : IntKind.i64.wrap kk = kk := Go.IntWalk.i64_in _ (by omega)
  have k9 : IntKind.u64.wrap kk = kk := by rw [IntKind.wrap_u64]; omega
  have k10 : IntKind.i64.wrap (1 + kk) = 1 + kk := Go.IntWalk.i64_in _ (by omega)
  generalize k % 18446744073709551616 = uu at *
  have HVR := Lib.hid hvr
  have HVA := Lib.hid hva
  have HL : Hid (n ≤ 17592186043904) := Lib.hid hvm.2
  have hN4 : IntKind.i64.wrap ((n : Int) + 4) = (n : Int) + 4 := Go.IntWalk.i64_in _ (by omega)
  have hnn1 : (n : Int) ≤ 17592186043904 := by omega
  have hnn0 : (0 : Int) ≤ (n : Int) := by omega
  obtain ⟨N, hN'⟩ : ∃ N, N = n + 4 := ⟨_, rfl⟩
  have hN := Lib.hid hN'
  obtain ⟨i0, hi, hz0, hz1, hz2⟩ := info_parts infoInt
  have HI := Lib.hid (And.intro hi (And.intro hz0 (And.intro hz1 hz2)))
  clear hi hz0 hz1 hz2 hvr hva hkk hvm hvc hN'
  go_enter Try.func9, Try.ntmps9
  go_wp2_with fail
  refine (C0.out _).mono ?_
  rintro e w1 ⟨rfl, b1⟩
  have B : Blk w1 (w.heap.size) [.int .i64 z, .slice ra rn rcap, .slice aa an acap, .slice oa on ocap] 25 := Blk.below (by repeat' (first | with_reducible assumption | (show (_ : List Value) = _; rfl) | with_reducible exact Blk.new _ _ rfl | (with_reducible refine Blk.new _ _ ?_; simp; done) | with_reducible apply Blk.set_eq | with_reducible apply Blk.other | with_reducible apply Blk.alloc | with_reducible apply Blk.drew | (simp; done) | (simp; omega))) b1; have Bc0 : w1.cell? ⟨w.heap.size, 0, none⟩ = some (.int .i64 z) := B.cell 0; have Bc1 : w1.cell? ⟨w.heap.size, 1, none⟩ = some (.slice ra rn rcap) := B.cell 1; have Bc2 : w1.cell? ⟨w.heap.size, 2, none⟩ = some (.slice aa an acap) := B.cell 2; have Bc3 : w1.cell? ⟨w.heap.size, 3, none⟩ = some (.slice oa on ocap) := B.cell 3; have Bf0 : w1.frozen? ⟨w.heap.size, 0, none⟩ = false := B.free 0; have Bf1 : w1.frozen? ⟨w.heap.size, 1, none⟩ = false := B.free 1; have Bf2 : w1.frozen? ⟨w.heap.size, 2, none⟩ = false := B.free 2; have Bf3 : w1.frozen? ⟨w.heap.size, 3, none⟩ = false := B.free 3; have Bz := B.lt
  have p1 : Below w.heap.size w w1 := (by repeat' (first | with_reducible exact Below.refl _ _ | with_reducible assumption | with_reducible refine bel_drew ?_ | with_reducible refine bel_alloc ?_ _ | with_reducible refine bel_set ?_ ?_ _ | with_reducible refine bel_call ?_ (by assumption) | (dsimp only; omega) | (simp; done) | (simp; omega)))
  clear b1 C0 B
  by_cases hz : 1 ≤ z ∧ z ≤ 4
  · go_wp2_with fail
    refine (C2.out _ p1 hz.1 hz.2).mono ?_
    rintro e w2 ⟨sb, tb, rfl, two, b2⟩
    have p2 : Below w.heap.size w w2 := p1.trans (b2.mono p1.size)
    obtain ⟨pb, mb, lv, lg, gb, ob, lv', lg', hS, hT, _⟩ := two.out
    have HSRC := Lib.hid hS.src
    clear two hS hT b2 C2 C3 Bc0 Bc1 Bc2 Bc3 Bf0 Bf1 Bf2 Bf3 Bz p1
    generalize fill z rl al ol = S at *
    clear hz
    go_wp2_with fail
    obtain ⟨hi, hz0, hz1, hz2⟩ := HI.out
    obtain ⟨w3, run3, own3, grow3⟩ := run_make_own (P := Try.prog) w2 w.heap.size 23 3 i0 _ 1 Try.underlying23 hi hz0 hz1 .i64 .i64 N (by rw [hz2]; have := hN.out; omega) (by unfold maxLen; have := hN.out; omega) p2.size
    rw [show (N : Int) = (n : Int) + 4 by have := hN.out; omega] at run3
    rw [run3]
    have b3 : Below w2.heap.size w2 w3 := (Below.refl _ _).grown grow3 (Nat.le_refl _) (fun _ h => by cases h)
    have p3 : Below w.heap.size w w3 := p2.trans (b3.mono p2.size)
    obtain ⟨g, hg⟩ : ∃ g, g = w2.heap.size := ⟨_, rfl⟩
    rw [← hg] at own3 b3
    rw [← hg]
    have hgw : w.heap.size ≤ g := by have := p2.size; omega
    have L3 : Hid (0 < n → Lies w3 vb vo 1 (inc p) n) := Lib.hid (fun h => (HVR.out h).lies.keep p3 (HVR.out h).lt)
    have room3 : 0 + n ≤ N := by have := hN.out; omega
    have HG := Lib.hid hg
    clear run3 grow3 hz0 hz2 hg
    have hg3 : g ≤ w3.heap.size := by have := b3.size; have := HG.out; omega
    have e4 : flat (both (inc p) 0 (inc p)) (0 + n) = flat (inc p) n := by
      rw [Nat.zero_add]
      exact flat_congr fun i hi => by unfold both; rw [if_neg (by omega), Nat.sub_zero]
    have room4 : n + 4 ≤ N := by have := hN.out; omega
    go_wp2_with (at_builtin; first | (refine wpList_append_in _ rfl (.tmp 45) (.tmp 46) 23 rfl w.heap.size 3 i0 1 Try.underlying23 hi hz1 g 0 N (inc p) rfl own3 va n vc vb vo rfl (inc p) (inc_len p) (inc_one p) HVA.out L3.out room3 ?_; intro w4 own4 grow4; have b4 : Below g w3 w4 := (Below.refl _ _).grown grow4 hg3 (fun k h => by cases h; exact Nat.le_refl _); have p4 := p3.trans (b4.mono hgw); rw [e4, Nat.zero_add] at own4; have HL4 := Lib.hid (lies71 w4); have HOW4 := Lib.hid (own4.alloc (.cells #[.int .i64 71, .int .i64 72, .int .i64 73, .int .i64 74] 3)); clear own3 own4 grow4; rw [Nat.zero_add]) | (refine wpList_append_in _ rfl (.tmp 48) (.tmp 49) 23 rfl w.heap.size 3 i0 1 Try.underlying23 hi hz1 g n N (inc p) rfl HOW4.out (some ⟨w4.heap.size, 0, none⟩) 4 4 w4.heap.size 0 rfl (inc (fun i => ([71, 72, 73, 74] : List Int).getD i 0)) (inc_len _) (inc_one _) (fun _ => rfl) (fun _ => HL4.out) room4 ?_; intro w5 own5 grow5))
    rw [hN.out] at own5
    have e5 : flat (both (inc p) n (inc (fun i => ([71, 72, 73, 74] : List Int).getD i 0))) (n + 4) = vI (toL n p ++ [71, 72, 73, 74]) := by
      rw [show toL n p ++ [71, 72, 73, 74] = toL n p ++ toL 4 (fun i => ([71, 72, 73, 74] : List Int).getD i 0) from rfl, toL_append, ← flat_vI]
      exact flat_congr fun i _ => by
        by_cases h : i < n
        · simp only [both, inc, if_pos h]
        · simp only [both, inc, if_neg h]
    rw [e5] at own5
    have MB := ownsRow_full own5
    have hg4 : g ≤ w4.heap.size := Nat.le_trans hg3 b4.size
    have c5 : Below g w2 w5 := ((b3.trans b4).alloc hg4 _).grown grow5 (Nat.le_trans hg4 (bel_alloc1 _ _).size) (fun k h => by cases h; exact Nat.le_refl _)
    have d5 : Below w2.heap.size w2 w5 := by have := c5; rw [HG.out] at this; exact this
    have p5 : Below w.heap.size w w5 := p2.trans (d5.mono p2.size)
    have SRC := Lib.hid (HSRC.out.keep d5)
    have HI5 := Lib.hid (HV.out.keep p5)
    have hok : okI (toL n p) := okI_toL.2 (fun i hi => (HVR.out (by omega)).ok i hi)
    have hLn : (toL n p).length = n := toL_len
    generalize toL n p = L at *
    have MI : Hid (∀ W, Blk W g (vI (L ++ [71, 72, 73, 74])) 3 → Ints W (.slice (some ⟨g, 0, none⟩) n N) L) := Lib.hid (fun W hB => Blk.intsAt (l1 := []) (l2 := [71, 72, 73, 74]) (rest := []) (by simpa using hB) hok hLn rfl HL.out (by have := hN.out; omega) (by unfold maxLen; have := hN.out; have := HL.out; omega))
    have M4 : Hid (∀ W, Blk W g (vI (L ++ [71, 72, 73, 74])) 3 → Ints W (.slice (some ⟨g, n, none⟩) 4 4) [71, 72, 73, 74]) := Lib.hid (fun W hB => Blk.intsAt (l1 := L) (l2 := []) (rest := []) (by simpa using hB) (by intro x hx; simp at hx; omega) rfl hLn (by omega) (by omega) (by unfold maxLen; omega))
    have hsl := run_mine_hi g n N hN.out.symm
    have HLn := Lib.hid hLn
    have HOK := Lib.hid hok
    clear hok hLn own5 e5 grow5 b3 b4 p3 p4 c5 d5 p2 hg3 hg4 e4 room3 L3 HL4 HOW4 HVR HVA HSRC HI hi hz1 k2 k3 k4 k8 k9 k10 hN4
    obtain ⟨⟨F1, F2, F3⟩, hF⟩ : ∃ F, form S L (1 + kk) = F := ⟨_, rfl⟩
    have CF := Lib.hid (fun W v' (hW : Below w5.heap.size w5 W) (hv : Ints W v' L) => sform_any (k := 1 + kk) (SRC.out.keep hW) hv)
    rw [hF] at CF
    dsimp only at CF
    have HF := Lib.hid hF
    clear hF
    refine (CF.out _ _ (Below.refl _ _) (MI.out _ MB)).mono ?_
    rintro e w6 ⟨av', lv1, rfl, oa, ol, b6⟩
    have MB6 := MB.below b6
    have hg5 := MB.lt
    have q6 := Lib.hid b6
    clear b6 MB
    go_wp2_with fail
    refine (CF.out _ _ q6.out (MI.out _ MB6)).mono ?_
    rintro e w7 ⟨bv, mv, rfl, ob, om, b7⟩
    have MB7 := MB6.below b7
    have q7 := Lib.hid (q6.out.trans (b7.mono q6.out.size))
    have hq6 := q6.out.size
    have OA := Lib.hid (And.intro (oa.keep b7) (And.intro (fun k hk => (oa.lt k hk).2) hq6))
    have OL := Lib.hid (And.intro (ol.keep b7) (fun k hk => (ol.lt k hk).2))
    have OB := Lib.hid ob
    have OM := Lib.hid om
    have hq7 := b7.size
    clear oa ol ob om b7 q6 MB6
    have X1 := Lib.hid (fun W (hW : Below w7.heap.size w7 W) => ints_true W (MI.out W (MB7.below hW)) (HI5.out.keep (q7.out.trans (hW.mono q7.out.size))))
    have X3 := Lib.hid (fun W (hW : Below w7.heap.size w7 W) => ints_true W (OA.out.1.ints.keep hW) (OB.out.ints.keep hW))
    have X4 := Lib.hid (fun W (hW : Below w7.heap.size w7 W) => records_true W (OL.out.1.recs.keep hW) (OM.out.recs.keep hW))
    go_wp2_with fail
    refine (X1.out _ (Below.refl _ _)).mono ?_
    rintro e w8 ⟨rfl, b8⟩
    have M48 := M4.out _ ((MB7.below b8).alloc (.cells #[.int .i64 71, .int .i64 72, .int .i64 73, .int .i64 74] 3))
    have N48 : Ints (w8.alloc (.cells #[.int .i64 71, .int .i64 72, .int .i64 73, .int .i64 74] 3)) (.slice (some ⟨w8.heap.size, 0, none⟩) 4 4) [71, 72, 73, 74] := lit_ints [71, 72, 73, 74] rfl (by omega) (by intro x hx; simp at hx; omega) (Blk.new [.int .i64 71, .int .i64 72, .int .i64 73, .int .i64 74] _ rfl)
    have X2 := Lib.hid (ints_true _ M48 N48)
    have q8 := Lib.hid b8
    have r8 : Hid (Below w7.heap.size w7 (w8.alloc (.cells #[.int .i64 71, .int .i64 72, .int .i64 73, .int .i64 74] 3))) := Lib.hid (bel_alloc b8 _)
    clear b8 M48 N48 X1
    go_wp2_with fail
    refine X2.out.mono ?_
    rintro e w9 ⟨rfl, b9⟩
    have q9 := Lib.hid (r8.out.trans (b9.mono r8.out.size))
    have hE3 : (F3 != F3) = false := by simp
    clear b9 X2 q8 r8 hsl
    go_wp2_with fail
    refine (X3.out _ q9.out).mono ?_
    rintro e w10 ⟨rfl, b10⟩
    have q10 := Lib.hid (q9.out.trans (b10.mono q9.out.size))
    clear b10 X3 q9
    go_wp2_with fail
    refine (X4.out _ q10.out).mono ?_
    rintro e w11 ⟨rfl, b11⟩
    have q11 := Lib.hid (q10.out.trans (b11.mono q10.out.size))
    clear b11 X4 q10 M4
    have HBB := Lib.hid (OB.out.keep (bel_alloc q11.out (.cells #[] 3)))
    have HF1 : Hid (([] : List Int).length + F1.length ≤ 17592186043904) := Lib.hid (by have := OB.out.parts.2.1; simpa using this)
    have HF2 : Hid (([] : List Rc).length + F2.length ≤ 8796093021952) := Lib.hid (by obtain ⟨_, _, h, _, _, hn⟩ := OM.out; rw [h, toL_len]; simpa using hn)
    have s11 := Lib.hid q11.out.size
    go_wp2_with (at_builtin; first | (refine wpList_append_ints rfl (.tmp 107) (.tmp 108) rfl rfl rfl rfl (OwnI.made w11) HBB.out.ints (bel_alloc1 _ _).size HF1.out ?_; intro want w12 ow g12 at12; have b12 : Below w11.heap.size w11 w12 := (bel_alloc1 _ _).grown g12 (bel_alloc1 _ _).size (fun k h => by cases h; exact Nat.le_refl _); have q12 := Lib.hid (q11.out.trans (b12.mono s11.out)); have HMM := Lib.hid (OM.out.keep (bel_alloc q12.out (.cells #[] 66))); have OW := Lib.hid (And.intro ow b12); clear ow g12 at12 b12) | (refine wpList_append_recs rfl (.tmp 110) (.tmp 111) rfl rfl rfl rfl (OwnR.made w12) HMM.out.recs (bel_alloc1 _ _).size HF2.out ?_; intro rcs w13 orc g13 at13; have b13 : Below w12.heap.size w12 w13 := (bel_alloc1 _ _).grown g13 (bel_alloc1 _ _).size (fun k h => by cases h; exact Nat.le_refl _); have OR := Lib.hid (And.intro orc b13); clear orc g13 at13 b13))
    have q13 := Lib.hid (q12.out.trans (OR.out.2.mono q12.out.size))
    have Q13 := Lib.hid (q7.out.trans (q13.out.mono q7.out.size))
    have hs56 : w5.heap.size ≤ w6.heap.size := hq6
    have hs67 : w6.heap.size ≤ w7.heap.size := hq7
    have hs7b := q13.out.size
    have OA13 := OA.out.1.keep q13.out
    have OL13 := OL.out.1.keep q13.out
    have lA := OA.out.2.1
    have lL := OL.out.2
    obtain ⟨bx, bc, rfl⟩ := OB.out.ints.shape
    have OB13 := Lib.hid (OB.out.keep q13.out)
    have OM13 := Lib.hid (OM.out.keep q13.out)
    have OW13 := Lib.hid ((OW.out.1.keep OR.out.2).base (Nat.le_trans hs67 s11.out))
    have OR13 := Lib.hid (OR.out.1.base (Nat.le_trans hs67 q12.out.size))
    have MB13 := Lib.hid (MB7.below q13.out)
    have lA0 := OA13.lt
    have lL0 := OL13.lt
    obtain ⟨ax, ac, rfl⟩ := OA13.ints.shape
    obtain ⟨lx, lc, rfl⟩ := OL13.shape
    have XA : Hid (∀ k, (Value.slice ax F1.length ac).ownBlock = some k → w5.heap.size ≤ k ∧ k < w6.heap.size) := Lib.hid (fun k hk => ⟨(lA0 k hk).1, lA k hk⟩)
    have XL : Hid (∀ k, (Value.slice lx F2.length lc).ownBlock = some k → w5.heap.size ≤ k ∧ k < w6.heap.size) := Lib.hid (fun k hk => ⟨(lL0 k hk).1, lL k hk⟩)
    have hn1 : Hid (F1.length ≤ 4) := Lib.hid (by have := (form_len (l := L) (k := 1 + kk) SRC.out.ok).1; rw [HF.out] at this; exact this)
    have hn2 : Hid (F2.length ≤ 1024) := Lib.hid (by have := (form_len (l := L) (k := 1 + kk) SRC.out.ok).2; rw [HF.out] at this; exact this)
    have HOL := Lib.hid (And.intro OL13 (fun (k : Nat) (hk : (Value.slice lx F2.length lc).ownBlock = some k) (h' : (Value.slice ax F1.length ac).ownBlock = some k) => kind_ne (OL13.kind hk) (OA13.kind h') (by decide) rfl))
    clear OA OL OB OM OW OR q12 HBB HMM HF1 HF2 s11 lA lL lA0 lL0 MB7 q11 hE3 OL13
    clear q7 hq6 hq7
    generalize hc1 : F1.length = n1 at *
    have HC1 := Lib.hid hc1
    generalize hc2 : F2.length = n2 at *
    have HC2 := Lib.hid hc2
    clear hc1 hc2
    go_loopg [20] n1 (fun g' s20 wr => ∃ (i : Nat) (la : List Int), i ≤ n1 ∧ g' = n1 - i ∧ s20 = .int .i64 i ∧ la.length = n1 ∧ OwnI wr w5.heap.size (.slice ax n1 ac) la ∧ Upd w13 wr (fun k => (Value.slice ax n1 ac).ownBlock = some k))
    case atStart => exact ⟨0, F1, Nat.zero_le _, rfl, rfl, HC1.out, OA13, Upd.refl _ _⟩
    case round =>
      obtain ⟨i, la, hi, rfl, rfl, hla, own, up⟩ := hrel
      clear OA13
      by_cases hlt : i < n1
      · have hz2 : (i : Int) < (n1 : Int) := by omega
        have hw1 : IntKind.i64.wrap ((i : Int) + 1) = (i : Int) + 1 := Go.IntWalk.i64_in _ (by have := hn1.out; omega)
        obtain ⟨_, ga, hax, ha1, ha2, ⟨y, hy⟩, hf, hst⟩ := own.store (x := 1073741824) hlt (by omega)
        subst hax
        have up2 : Hid (Upd w13 (wr.setCell ⟨ga, i, none⟩ (.int .i64 1073741824)) (fun k => (Value.slice (some ⟨ga, 0, none⟩) n1 ac).ownBlock = some k)) := Lib.hid (up.trans (Upd.of_set (X := fun k => (Value.slice (some ⟨ga, 0, none⟩) n1 ac).ownBlock = some k) _ _ rfl) (fun _ _ h => h))
        have HST := Lib.hid hst
        clear own up hst
        go_wp2_with fail
        go_roundg (n1 - (i + 1))
        case measure => omega
        case rel => exact ⟨i + 1, _, hlt, rfl, (by first | rfl | simp), by rw [List.length_set]; exact hla, HST.out, up2.out⟩
      · obtain rfl : n1 = i := by omega
        have hz2 : ¬ ((n1 : Int) < (n1 : Int)) := by omega
        rename World => wa
        have HOW := Lib.hid own
        have HUP := Lib.hid up
        have ol1 : OwnR wa w5.heap.size (.slice lx n2 lc) F2 := HOL.out.1.upd up HOL.out.2
        have ol1k : ∀ k, (Value.slice lx n2 lc).ownBlock = some k → ∃ c, wa.heap[k]? = some (.cells c 66 (0, 0)) := fun k hk => ol1.kind hk
        have OL1K := Lib.hid ol1k
        clear own up ol1k
        go_wp2_with fail
        go_loopg [21] n2 (fun g' s21 wr => ∃ (j : Nat) (ll : List Rc), j ≤ n2 ∧ g' = n2 - j ∧ s21 = .int .i64 j ∧ ll.length = n2 ∧ OwnR wr w5.heap.size (.slice lx n2 lc) ll ∧ Upd wa wr (fun k => (Value.slice lx n2 lc).ownBlock = some k))
        case atStart => exact ⟨0, F2, Nat.zero_le _, rfl, rfl, HC2.out, ol1, Upd.refl _ _⟩
        case round =>
          obtain ⟨j, ll, hj, rfl, rfl, hll, own, up⟩ := hrel
          clear ol1
          by_cases hlt : j < n2
          · have hz2 : (j : Int) < (n2 : Int) := by omega
            have hw1 : IntKind.i64.wrap ((j : Int) + 1) = (j : Int) + 1 := Go.IntWalk.i64_in _ (by have := hn2.out; omega)
            obtain ⟨_, ga, hax, ha1, ha2, ⟨y, z', hy, hz'⟩, hf0, hf1, hst⟩ := own.store (r := ⟨1125899906842624, 0⟩) hlt ⟨by decide, by decide, by decide⟩
            subst hax
            have HST := Lib.hid hst
            have up2 := Lib.hid (up.trans (setAll_upd ga [.int .u64 1125899906842624, .float .f64 0] (j * 2) wr) (fun k _ h => h ▸ rfl))
            clear own up hst
            go_wp2_with fail
            go_roundg (n2 - (j + 1))
            case measure => omega
            case rel => exact ⟨j + 1, _, hlt, rfl, (by first | rfl | simp), by rw [List.length_set]; exact hll, HST.out, up2.out⟩
          · obtain rfl : n2 = j := by omega
            have hz2 : ¬ ((n2 : Int) < (n2 : Int)) := by omega
            rename World => wb
            have HOW2 := Lib.hid own
            have HUP2 := Lib.hid up
            clear own up
            go_wp2_with fail
            have oa2 : OwnI wb w5.heap.size (.slice ax n1 ac) la := HOW.out.upd HUP2.out (fun k hk h' => kind_ne (OL1K.out k h') (HOW.out.kind hk) (by decide) rfl)
            have up3 : Upd w13 wb (fun k => w5.heap.size ≤ k ∧ k < w6.heap.size) := HUP.out.trans2 HUP2.out (fun k hk => XA.out k hk) (fun k hk => XL.out k hk)
            have HUP3 := Lib.hid up3
            have ol2 := HOW2.out
            clear HUP HUP2 HOW HOW2 up3
            go_loopg [12, 13, 22] 9 (fun g' s12 s13 s22 wr => ∃ (i : Nat) (la : List Int) (ll : List Rc), i ≤ 9 ∧ g' = 9 - i ∧ s22 = .int .i64 i ∧ la.length = n1 + i ∧ ll.length = n2 + i ∧ OwnI wr w5.heap.size s12 la ∧ OwnR wr w5.heap.size s13 ll ∧ Upd wb wr (fun k => w5.heap.size ≤ k ∧ k < w6.heap.size) ∧
              (∀ k, s12.ownBlock = some k → (w5.heap.size ≤ k ∧ k < w6.heap.size) ∨ wb.heap.size ≤ k) ∧ (∀ k, s13.ownBlock = some k → (w5.heap.size ≤ k ∧ k < w6.heap.size) ∨ wb.heap.size ≤ k))
            case atStart => exact ⟨0, la, ll, by omega, rfl, rfl, hla, hll, oa2, ol2, Upd.refl _ _, fun k hk => .inl (XA.out k hk), fun k hk => .inl (XL.out k hk)⟩
            case round =>
              obtain ⟨i, la2, ll2, hi, rfl, rfl, hla2, hll2, own, own2, up, xa, xl⟩ := hrel
              clear oa2 ol2
              by_cases hlt : i < 9
              · have hz2 : (i : Int) < 9 := by omega
                have hw1 : IntKind.i64.wrap ((i : Int) + 1) = (i : Int) + 1 := Go.IntWalk.i64_in _ (by omega)
                have HO := Lib.hid own
                have HM := Lib.hid own2
                have HK : Hid (∀ k, u13.ownBlock = some k → ¬ u12.ownBlock = some k) := Lib.hid (fun k h1 h2 => kind_ne (own2.kind h1) (own.kind h2) (by decide) rfl)
                have HUW := Lib.hid up
                have HZ : Hid (w5.heap.size ≤ wr.heap.size) := Lib.hid (Nat.le_trans (Nat.le_trans (Nat.le_trans hs56 (Nat.le_trans hs67 hs7b)) HUP3.out.size) up.size)
                have LB1 : Hid (la2.length + ([9] : List Int).length ≤ 17592186043904) := Lib.hid (by have := hn1.out; simp only [List.length_cons, List.length_nil]; omega)
                have LB2 : Hid (ll2.length + ([⟨8, 0⟩] : List Rc).length ≤ 8796093021952) := Lib.hid (by have := hn2.out; simp only [List.length_cons, List.length_nil]; omega)
                have XA2 := Lib.hid xa
                have XL2 := Lib.hid xl
                clear own own2 up xa xl
                go_wp2_with (at_builtin; first | (refine wpList_append_ints rfl (.tmp 136) (.tmp 137) rfl rfl rfl rfl (HO.out.keep (bel_alloc1 wr _)) (single_int wr 9 (by omega)) (Nat.le_trans HZ.out (bel_alloc1 wr _).size) LB1.out ?_; intro v12 w15 oa3 g15 at15; have UA := Lib.hid (upd_app g15); have OM2 := Lib.hid (HM.out.upd UA.out HK.out); have HZ2 := Lib.hid (Nat.le_trans HZ.out UA.out.size); have OA3 := Lib.hid (And.intro oa3 at15); clear oa3 g15 at15) | (refine wpList_append_recs rfl (.tmp 139) (.tmp 141) rfl rfl rfl rfl (OM2.out.keep (bel_alloc1 w15 _)) (lit_recs [⟨8, 0⟩] rfl (by omega) (rc_dec (by decide)) (Blk.new [.int .u64 8, .float .f64 0] _ rfl)) (Nat.le_trans HZ2.out (bel_alloc1 w15 _).size) LB2.out ?_; intro v13 w16 om3 g16 at16; have UB := Lib.hid (upd_app g16); have OM3 := Lib.hid (And.intro om3 at16); clear om3 g16 at16))
                have a1 := OA3.out.1.upd UB.out (fun k h1 h2 => kind_ne (OA3.out.1.kind h1) (OM2.out.kind h2) (by decide) rfl)
                have b1 := OM3.out.1
                have up2 := (HUW.out.trans UA.out (fun k hk h => (XA2.out k h).resolve_right (by omega))).trans UB.out (fun k hk h => (XL2.out k h).resolve_right (by omega))
                have xa2 : ∀ k, v12.ownBlock = some k → (w5.heap.size ≤ k ∧ k < w6.heap.size) ∨ wb.heap.size ≤ k := fun k hk => by
                  rcases OA3.out.2 with h | h
                  · exact XA2.out k (h ▸ hk)
                  · rw [h] at hk; cases hk; exact .inr (Nat.le_trans HUW.out.size (bel_alloc1 wr _).size)
                have xl2 : ∀ k, v13.ownBlock = some k → (w5.heap.size ≤ k ∧ k < w6.heap.size) ∨ wb.heap.size ≤ k := fun k hk => by
                  rcases OM3.out.2 with h | h
                  · exact XL2.out k (h ▸ hk)
                  · rw [h] at hk; cases hk; exact .inr (Nat.le_trans (HUW.out.trans UA.out (fun k hk h => (XA2.out k h).resolve_right (by omega))).size (bel_alloc1 w15 _).size)
                clear HO HM HK HUW HZ LB1 LB2 XA2 XL2 UA OM2 HZ2 OA3 UB OM3
                go_roundg (9 - (i + 1))
                case measure => omega
                case rel => exact ⟨i + 1, _, _, by omega, rfl, (by first | rfl | simp), by rw [List.length_append, hla2]; simp only [List.length_cons, List.length_nil]; omega, by rw [List.length_append, hll2]; simp only [List.length_cons, List.length_nil]; omega, a1, b1, up2, xa2, xl2⟩
              · obtain rfl : i = 9 := by omega
                have hz2 : ¬ (((9 : Nat) : Int) < 9) := by omega
                rename World => wc
                obtain ⟨ay, ac2, rfl⟩ := own.ints.shape
                have T : Upd w13 wc (fun k => w5.heap.size ≤ k ∧ k < w6.heap.size) := HUP3.out.trans2 up (fun _ h => h) (fun _ h => h)
                have Qc : Below w5.heap.size w5 wc := Q13.out.trans (T.below (Nat.le_trans hs56 (Nat.le_trans hs67 hs7b)) (fun _ h => h.1))
                have OBc := Lib.hid (OB13.out.upd T (fun k hk h => absurd (OB13.out.lt k hk).1 (by omega)))
                have OMc := Lib.hid (OM13.out.upd T (fun k hk h => absurd (OM13.out.lt k hk).1 (by omega)))
                have OWc := Lib.hid (OW13.out.upd T (fun k hk h => absurd (OW13.out.lt k hk).1 (by omega)))
                have ORc := Lib.hid (OR13.out.upd T (fun k hk h => absurd (OR13.out.lt k hk).1 (by omega)))
                have MBc := Lib.hid (MB13.out.upd T (fun h => by have := h.1; omega))
                have QC := Lib.hid Qc
                have hszc : w13.heap.size ≤ wc.heap.size := T.size
                have hq : w5.heap.size ≤ wc.heap.size := Qc.size
                have hw9 : IntKind.i64.wrap ((n1 : Int) + 9) = (n1 : Int) + 9 := Go.IntWalk.i64_in _ (by have := hn1.out; omega)
                have hE9 : ((n1 : Int) + 9 != (n1 : Int) + 9) = false := by simp
                have hE3 : (F3 != F3) = false := by simp
                rw [hla2]
                rw [List.nil_append] at OWc ORc
                clear own own2 up xa xl T Qc OB13 OM13 OW13 OR13 MB13 hla hll hla2 hll2 HUP3 XA XL HOL OL1K hlt hi
                go_wp2_with fail
                refine (CF.out _ _ QC.out (HI5.out.keep QC.out)).mono ?_
                rintro e w17 ⟨cv, ov', rfl, oc, oo, b17⟩
                have OCc := Lib.hid oc
                have OOc := Lib.hid oo
                have q17 := Lib.hid b17
                have hs17 := b17.size
                clear oc oo b17
                have Y1 := Lib.hid (fun W (hW : Below w17.heap.size w17 W) => ints_true W ((OBc.out.keep q17.out).ints.keep hW) ((OWc.out.keep q17.out).ints.keep hW))
                have Y2 := Lib.hid (fun W (hW : Below w17.heap.size w17 W) => records_true W ((OMc.out.keep q17.out).recs.keep hW) ((ORc.out.keep q17.out).recs.keep hW))
                have Y3 := Lib.hid (fun W (hW : Below w17.heap.size w17 W) => ints_true W (OCc.out.ints.keep hW) ((OWc.out.keep q17.out).ints.keep hW))
                have Y4 := Lib.hid (fun W (hW : Below w17.heap.size w17 W) => records_true W (OOc.out.recs.keep hW) ((ORc.out.keep q17.out).recs.keep hW))
                go_wp2_with fail
                refine (Y1.out _ (Below.refl _ _)).mono ?_
                rintro e w18 ⟨rfl, b18⟩
                have q18 := Lib.hid b18
                clear b18 Y1
                go_wp2_with fail
                refine (Y2.out _ q18.out).mono ?_
                rintro e w19 ⟨rfl, b19⟩
                have q19 := Lib.hid (q18.out.trans (b19.mono q18.out.size))
                clear b19 Y2 q18
                go_wp2_with fail
                refine (Y3.out _ q19.out).mono ?_
                rintro e w20 ⟨rfl, b20⟩
                have q20 := Lib.hid (q19.out.trans (b20.mono q19.out.size))
                clear b20 Y3 q19
                go_wp2_with fail
                refine (Y4.out _ q20.out).mono ?_
                rintro e w21 ⟨rfl, b21⟩
                have q21 := Lib.hid (q20.out.trans (b21.mono q20.out.size))
                clear b21 Y4 q20
                have p21 : Below w.heap.size w w21 := (p5.trans (QC.out.mono p5.size)).trans ((q17.out.mono (Nat.le_trans p5.size hq)).trans (q21.out.mono (Nat.le_trans (Nat.le_trans p5.size hq) hs17)))
                by_cases hF3 : F3 = 0
                · have hF0 : (F3 != 0) = false := by simp [hF3]
                  go_wp2_with fail
                  obtain ⟨hg1, hg2, hg3, hg4⟩ := form_good (l := L) (k := 1 + kk) SRC.out.ok (by omega) (by omega) (by rw [HF.out]; exact hF3)
                  rw [HF.out] at hg2 hg4
                  have hn4 : n ≤ 4 := by have := HLn.out; omega
                  have H2 := Lib.hid hg2
                  have H3 := Lib.hid (rightT_one HLn.out hg3)
                  have H4 : Hid (F1.length = n) := Lib.hid (hg4.trans HLn.out)
                  have OWd := Lib.hid ((OWc.out.keep q17.out).keep q21.out)
                  have MBd := Lib.hid ((MBc.out.below q17.out).below q21.out)
                  have OCd := Lib.hid (OCc.out.keep q21.out)
                  have lW := Lib.hid (fun k hk => (OWc.out.lt k hk).2)
                  have hwc21 : wc.heap.size ≤ w21.heap.size := Nat.le_trans hs17 q21.out.size
                  have P21 := Lib.hid p21
                  have hnN : n ≤ N := by omega
                  clear hg1 hg2 hg3 hg4 hF0 hF3 OBc OMc OWc ORc MBc OCc OOc QC q17 q21 CF HF hw9 hE9 hE3 p21
                  refine RV.wp_region_ghost (StD w21 w21 (StN w21.heap.size n (.slice (some ⟨g, 0, none⟩) n N)) (VU 0 0 7) (FinN w21.heap.size n (.slice (some ⟨g, 0, none⟩) n N)) 6 7) (by kernel_rfl) (by kernel_rfl) StD.loc (.begin _ (Below.refl _ _) (by decide) (fun i u w' hi => StN.none u w' (by have hi : 8 ≤ i := hi; omega)) (fun i u hi => VU.none u (by have hi : 8 ≤ i := hi; omega))) ?_
                  refine RV.lexg_val (fun _ => by rfl) ?_; apply Exists.intro; refine ⟨?_, ?_⟩; ((intro g L w' hU hT; have hT' := hT.upd (i := 0) (by decide) (fun _ _ => StN.none _ _ (by decide)) (fun _ => VU.none _ (by decide)); obtain ⟨hc, hf⟩ := bcell hT.ext; clear hT hU; go_simp; exact rfl)); simp only [Act.put, List.setIfInBounds_toArray, List.set_cons_zero, List.set_cons_succ]
                  refine RV.lexg_new (fun _ => by rfl) ?_ ?_
                  · intro g' L' w' hU hT
                    have h5 := hU.closed.no (j := 5) (i := 1) rfl (by kernel_rfl) hU.not
                    have h7 := hU.closed.no (j := 7) (i := 5) rfl (by kernel_rfl) h5
                    obtain ⟨w'', h1, h2, h3⟩ := run_make_ints w' w21.heap.size n .i64 .i64 (by omega) hT.bel.size
                    exact lx_make rfl rfl rfl h1 (hT.new (by decide) h7 h3 (StN.keep _ _ _) ⟨fun _ => ⟨_, rfl, h2⟩, fun h => absurd h (by decide), fun h => absurd h (by decide)⟩ (VU.none _ (by decide)))
                  simp only [Act.put, List.setIfInBounds_toArray, List.set_cons_zero, List.set_cons_succ]
                  refine RV.lexg_val (fun _ => by rfl) ?_; apply Exists.intro; refine ⟨?_, ?_⟩; ((intro g L w' hU hT; have hT' := hT.upd (i := 2) (by decide) (fun _ _ => StN.none _ _ (by decide)) (fun _ => VU.none _ (by decide)); obtain ⟨hc, hf⟩ := bcell hT.ext; clear hT hU; go_simp; exact rfl)); simp only [Act.put, List.setIfInBounds_toArray, List.set_cons_zero, List.set_cons_succ]
                  refine RV.lexg_val (fun _ => by rfl) ?_; apply Exists.intro; refine ⟨?_, ?_⟩; ((intro g L w' hU hT; have hT' := hT.upd (i := 3) (by decide) (fun _ _ => StN.none _ _ (by decide)) (fun _ => VU.none _ (by decide)); obtain ⟨hc, hf⟩ := bcell hT.ext; clear hT hU; go_simp; exact rfl)); simp only [Act.put, List.setIfInBounds_toArray, List.set_cons_zero, List.set_cons_succ]
                  refine RV.lexg_val (fun _ => by rfl) ?_; apply Exists.intro; refine ⟨?_, ?_⟩; ((intro g L w' hU hT; have hT' := hT.upd (i := 4) (by decide) (fun _ _ => StN.none _ _ (by decide)) (fun _ => VU.none _ (by decide)); obtain ⟨hc, hf⟩ := bcell hT.ext; clear hT hU; go_simp; exact rfl)); simp only [Act.put, List.setIfInBounds_toArray, List.set_cons_zero, List.set_cons_succ]
                  refine RV.lexg_new (fun _ => by rfl) ?_ ?_
                  · intro g' L' w' hU hT
                    have h7 := hU.closed.no (j := 7) (i := 5) rfl (by kernel_rfl) hU.not
                    obtain ⟨a1, e1, o1⟩ := (hT.at_ h7 1 (hU.yes rfl (by kernel_rfl))).1 rfl
                    refine lx_ok (u := .agg #[.int .i64 1, .slice a1 n n, .slice (some ⟨g, 0, none⟩) n N]) (w' := w') ?_ (hT.new (by decide) h7 (Below.refl _ _) (StN.keep _ _ _) ⟨fun h => absurd h (by decide), fun _ => ⟨a1, rfl, e1 ▸ o1⟩, fun h => absurd h (by decide)⟩ (VU.none _ (by decide)))
                    clear hT hU o1
                    rw [e1]
                    go_simp
                  simp only [Act.put, List.setIfInBounds_toArray, List.set_cons_zero, List.set_cons_succ]
                  refine RV.lexg_new (fun _ => by rfl) ?_ ?_
                  · intro g' L' w' hU hT
                    have h7 := hU.closed.no (j := 7) (i := 6) rfl (by kernel_rfl) hU.not
                    refine lx_ok (u := .pointer (some ⟨w'.heap.size, 0, none⟩)) (w' := w'.alloc (.cells #[.int .i64 0, .slice none 0 0, .slice none 0 0] 54)) ?_ (hT.new (by decide) h7 (bel_alloc1 _ _) (StN.keep _ _ _) ⟨fun h => absurd h (by decide), fun h => absurd h (by decide), fun _ => ⟨_, rfl, hT.ext.size, Blk.new [.int .i64 0, .slice none 0 0, .slice none 0 0] _ rfl⟩⟩ (VU.none _ (by decide)))
                    clear hT hU
                    go_simp
                  simp only [Act.put, List.setIfInBounds_toArray, List.set_cons_zero, List.set_cons_succ]
                  refine RV.lexg_op (fun _ => by rfl) ?_
                  refine ⟨fun _ => undef, ?_, RV.known_const _ _, ?_⟩
                  · intro g' L' w' hU hT
                    obtain ⟨a1, e5, o1⟩ := (hT.at_ hU.not 5 (hU.yes rfl (by kernel_rfl))).2.1 rfl
                    have l6 : L' 6 = true := hU.yes rfl (by kernel_rfl)
                    obtain ⟨b2, e6, hb2, hB⟩ := (hT.at_ hU.not 6 l6).2.2 rfl
                    have hT' : StD w21 w21 (StN w21.heap.size n (.slice (some ⟨g, 0, none⟩) n N)) (VU 0 0 7) (FinN w21.heap.size n (.slice (some ⟨g, 0, none⟩) n N)) 6 7 g' (upd L' 7) (setAll w' b2 0 [.int .i64 1, .slice a1 n n, .slice (some ⟨g, 0, none⟩) n N]) := StD.store hT (by decide) l6 (setAll_below hb2 _ _ hT.bel) (setAll_below hb2 _ _ hT.ext) ⟨b2, a1, e6, hb2, Blk.setAll [.int .i64 1, .slice a1 n n, .slice (some ⟨g, 0, none⟩) n N] _ [] hB rfl, o1.upd (setAll_upd b2 _ _ _) (fun k hk he => kind_ne (o1.kind hk) hB.kind (by decide) he)⟩
                    have zc0 := hB.cell 0; have zf0 := hB.free 0; have zc1 := hB.cell 1; have zf1 := hB.free 1; have zc2 := hB.cell 2; have zf2 := hB.free 2
                    simp only [List.getElem?_cons_zero, List.getElem?_cons_succ] at zc0 zc1 zc2
                    clear hT hU o1 hB
                    rw [e5, e6]
                    go_simp
                    first | exact hT' | exact ⟨hT', rfl⟩
                  simp only [Act.put]
                  refine RV.lexg_nil ?_
                  intro g' w22 hT
                  have q22 := hT.bel
                  obtain ⟨_, b2, za, e6, hb2, hB22, oz⟩ := hT.fin rfl
                  clear hT
                  dsimp only
                  rw [e6]
                  clear e6
                  obtain ⟨wx, wcap, rfl⟩ := OWd.out.ints.shape
                  have P22 := Lib.hid (P21.out.trans (q22.mono P21.out.size))
                  have MB22 := Lib.hid (MBd.out.below q22)
                  have OW22 := Lib.hid (OWd.out.keep q22)
                  have OC22 := Lib.hid (OCd.out.keep q22)
                  have HV22 := Lib.hid (HV.out.keep P22.out)
                  have e1 : stepT 1 (toL n (fun _ => 0)) L F1 = ((2, L, F1), 0) := stepT_yes H3.out (by omega) H2.out
                  have e2 : atT 1 (toL n (fun _ => 0)) L 1 = (L, true) := if_pos rfl
                  have CS := sstep_any (b := 1) w22 (by omega) oz.ints (MI.out _ MB22.out) OW22.out.ints
                  rw [e1] at CS
                  have CS := Lib.hid CS
                  have CT := Lib.hid (fun W (hW : Below w22.heap.size w22 W) => e2 ▸ sat_any (b := 1) (m := 1) W (by omega) (oz.ints.keep hW) ((MI.out _ MB22.out).keep hW))
                  have D : Blk w22 (b2) [.int .i64 1, .slice za n n, .slice (some ⟨g, 0, none⟩) n N] 54 := hB22; have Dc0 : w22.cell? ⟨b2, 0, none⟩ = some (.int .i64 1) := D.cell 0; have Dc1 : w22.cell? ⟨b2, 1, none⟩ = some (.slice za n n) := D.cell 1; have Dc2 : w22.cell? ⟨b2, 2, none⟩ = some (.slice (some ⟨g, 0, none⟩) n N) := D.cell 2; have Df0 : w22.frozen? ⟨b2, 0, none⟩ = false := D.free 0; have Df1 : w22.frozen? ⟨b2, 1, none⟩ = false := D.free 1; have Df2 : w22.frozen? ⟨b2, 2, none⟩ = false := D.free 2; have Dz := D.lt
                  have q21 := Lib.hid q22
                  have lw2 := q22.size
                  clear e1 e2 oz OWd MBd OCd hB22 q22 P21 MI
                  go_wp2_with fail
                  refine CS.out.mono ?_
                  rintro e w23 ⟨r1, r2, rfl, o1, o2, b23⟩
                  obtain ⟨x1, y1, rfl⟩ := o1.ints.shape
                  obtain ⟨x2, y2, rfl⟩ := o2.ints.shape
                  have E : Blk w23 (b2) [.int .i64 1, .slice za n n, .slice (some ⟨g, 0, none⟩) n N] 54 := D.below b23; have Ec0 : w23.cell? ⟨b2, 0, none⟩ = some (.int .i64 1) := E.cell 0; have Ec1 : w23.cell? ⟨b2, 1, none⟩ = some (.slice za n n) := E.cell 1; have Ec2 : w23.cell? ⟨b2, 2, none⟩ = some (.slice (some ⟨g, 0, none⟩) n N) := E.cell 2; have Ef0 : w23.frozen? ⟨b2, 0, none⟩ = false := E.free 0; have Ef1 : w23.frozen? ⟨b2, 1, none⟩ = false := E.free 1; have Ef2 : w23.frozen? ⟨b2, 2, none⟩ = false := E.free 2; have Ez := E.lt
                  have hne : b2 ≠ w23.heap.size := by omega
                  have q23 := Lib.hid b23
                  have O1 := Lib.hid o1
                  have O2 := Lib.hid o2
                  have hs23 := b23.size
                  clear o1 o2 b23 CS D Dc0 Dc1 Dc2 Df0 Df1 Df2 Dz
                  have Q0 := bel_alloc1 w23 (.cells #[.int .i64 2, .slice x1 L.length y1, .slice x2 F1.length y2] 54)
                  have UB : Blk (w23.alloc (.cells #[.int .i64 2, .slice x1 L.length y1, .slice x2 F1.length y2] 54)) w23.heap.size [.int .i64 2, .slice x1 L.length y1, .slice x2 F1.length y2] 54 := Blk.new [.int .i64 2, .slice x1 L.length y1, .slice x2 F1.length y2] _ rfl
                  go_wp2_with fail
                  generalize (w23.alloc (.cells #[.int .i64 2, .slice x1 L.length y1, .slice x2 F1.length y2] 54)) = W4 at *
                  have q4 := Lib.hid (q23.out.trans (Q0.mono q23.out.size))
                  have hs4 := Q0.size
                  refine (CT.out _ q4.out).mono ?_
                  rintro e w24 ⟨xv, rfl, ox, b24⟩
                  have R24 := Lib.hid (q4.out.trans (b24.mono q4.out.size))
                  have P24 := Lib.hid (P22.out.trans (R24.out.mono P22.out.size))
                  have Z1 := Lib.hid ((O1.out.keep Q0).keep b24)
                  have Z2 := Lib.hid ((O2.out.keep Q0).keep b24)
                  have ZU := UB.below b24
                  have ZX := Lib.hid ox
                  have ZM := Lib.hid (MB22.out.below R24.out)
                  have ZW := OW22.out.keep R24.out
                  have ZC := Lib.hid (OC22.out.keep R24.out)
                  have hs24 := b24.size
                  have hgW : g < w21.heap.size := by omega
                  have mok : okI (L ++ [71, 72, 73, 74]) := by
                    intro x hx
                    rcases List.mem_append.1 hx with h | h
                    · exact HOK.out x h
                    · simp at h; omega
                  have hlm : (L ++ [71, 72, 73, 74]).length = n + 4 := by rw [List.length_append, HLn.out]; rfl
                  have ZM2 : OwnI w24 0 (.slice (some ⟨g, 0, none⟩) (n + 4) N) (L ++ [71, 72, 73, 74]) := by
                    have := Blk.ownI (N := 0) (cap := N) (rest := []) mok (by rw [hlm]; omega) (Nat.zero_le _) (by rw [hlm]; have := hN.out; omega) (by unfold maxLen; have := hN.out; omega) (by rw [hlm]; have := hN.out; simp only [List.length_nil]; omega) (by simpa using ZM.out)
                    rwa [hlm] at this
                  have LW : Hid (∀ k, (Value.slice wx F1.length wcap).ownBlock = some k → w6.heap.size ≤ k ∧ k < wc.heap.size) := Lib.hid (fun k hk => ⟨(ZW.lt k hk).1, lW.out k hk⟩)
                  have HLM := Lib.hid (And.intro hlm ZM2)
                  rw [H4.out] at LW ZW
                  have ZWH := Lib.hid ZW
                  clear CT OW22 OC22 MB22 Q0 UB b24 ox q23 q21 O1 O2 R24 E Ec0 Ec1 Ec2 Ef0 Ef1 Ef2 Ez mok hlm ZM2 ZW lW
                  go_wp2_with fail
                  rw [H4.out]
                  go_loopg [30] n (fun g' s30 wr => ∃ (i : Nat) (lm lw : List Int), i ≤ n ∧ g' = n - i ∧ s30 = .int .i64 i ∧ lm.length = n + 4 ∧ OwnI wr 0 (.slice (some ⟨g, 0, none⟩) (n + 4) N) lm ∧ OwnI wr w6.heap.size (.slice wx n wcap) lw ∧ Upd w24 wr (fun k => k = g ∨ (Value.slice wx n wcap).ownBlock = some k))
                  case atStart => exact ⟨0, _, _, Nat.zero_le _, rfl, rfl, HLM.out.1, HLM.out.2, ZWH.out, Upd.refl _ _⟩
                  case round =>
                    obtain ⟨i, lm, lw, hi, rfl, rfl, hlm, own, own2, up⟩ := hrel
                    by_cases hlt : i < n
                    · have hz2 : (i : Int) < (n : Int) := by omega
                      have hz3 : (i : Int) < (n : Int) + 4 := by omega
                      have hw1 : IntKind.i64.wrap ((i : Int) + 1) = (i : Int) + 1 := Go.IntWalk.i64_in _ (by omega)
                      obtain ⟨_, ga, hax, ha1, ha2, ⟨y, hy⟩, hf, hst⟩ := own.store (x := 99) (i := i) (by omega) (by omega)
                      cases hax
                      have own3 := own2.upd (Upd.of_set (X := fun k => k = g) ⟨g, i, none⟩ (.int .i64 99) rfl) (fun k hk h => by have := (own2.lt k hk).1; have h : k = g := h; omega)
                      obtain ⟨_, gb', hbx, hb1, hb2', ⟨y', hy'⟩, hf', hst'⟩ := own3.store (x := 98) hlt (by omega)
                      subst hbx
                      have hgg : g ≠ gb' := by omega
                      have own4 := hst.upd (Upd.of_set (X := fun k => k = gb') ⟨gb', i, none⟩ (.int .i64 98) rfl) (fun k hk h => by cases hk; have h : g = gb' := h; omega)
                      have up2 : Upd w24 ((wr.setCell ⟨g, i, none⟩ (.int .i64 99)).setCell ⟨gb', i, none⟩ (.int .i64 98)) (fun k => k = g ∨ (Value.slice (some ⟨gb', 0, none⟩) n wcap).ownBlock = some k) :=
                        (up.trans (Upd.of_set (X := fun k => k = g ∨ (Value.slice (some ⟨gb', 0, none⟩) n wcap).ownBlock = some k) ⟨g, i, none⟩ _ (.inl rfl)) (fun _ _ h => h)).trans (Upd.of_set (X := fun k => k = g ∨ (Value.slice (some ⟨gb', 0, none⟩) n wcap).ownBlock = some k) ⟨gb', i, none⟩ _ (.inr rfl)) (fun _ _ h => h)
                      have A1 := Lib.hid own4
                      have A2 := Lib.hid hst'
                      have A3 := Lib.hid up2
                      clear own own2 up hst hst' own3 own4 up2
                      go_wp2_with fail
                      go_roundg (n - (i + 1))
                      case measure => omega
                      case rel => exact ⟨i + 1, _, _, hlt, rfl, (by first | rfl | simp), by rw [List.length_set]; exact hlm, A1.out, A2.out, A3.out⟩
                    · obtain rfl : n = i := by omega
                      have hz2 : ¬ ((n : Int) < (n : Int)) := by omega
                      rename World => wd
                      have hgw2 : ∀ k, (k = g ∨ (Value.slice wx n wcap).ownBlock = some k) → w.heap.size ≤ k ∧ k < w21.heap.size := fun k h => by
                        rcases h with h | h
                        · omega
                        · have := LW.out k h; have := p5.size; omega
                      have hcw : ∀ k, (k = g ∨ (Value.slice wx n wcap).ownBlock = some k) → k < wc.heap.size := fun k h => by
                        rcases h with h | h
                        · omega
                        · exact (LW.out k h).2
                      have Bd := up.below (N := w.heap.size) (Nat.le_trans P24.out.size (Nat.le_refl _)) (fun k h => (hgw2 k h).1)
                      have Pd := P24.out.trans Bd
                      have HVd := HV.out.keep Pd
                      have X1 := ZX.out.upd up (fun k hk h => by have := (ZX.out.lt k hk).1; have := (hgw2 k h).2; omega)
                      have X2 := Z1.out.upd up (fun k hk h => by have := (Z1.out.lt k hk).1; have := (hgw2 k h).2; omega)
                      have X3 := Z2.out.upd up (fun k hk h => by have := (Z2.out.lt k hk).1; have := (hgw2 k h).2; omega)
                      have X4 := ZC.out.upd up (fun k hk h => by have := (ZC.out.lt k hk).1; have := hcw k h; omega)
                      have E : Blk wd (w23.heap.size) [.int .i64 2, .slice x1 L.length y1, .slice x2 F1.length y2] 54 := ZU.upd up (fun h => by have := (hgw2 _ h).2; omega); have Ec0 : wd.cell? ⟨w23.heap.size, 0, none⟩ = some (.int .i64 2) := E.cell 0; have Ec1 : wd.cell? ⟨w23.heap.size, 1, none⟩ = some (.slice x1 L.length y1) := E.cell 1; have Ec2 : wd.cell? ⟨w23.heap.size, 2, none⟩ = some (.slice x2 F1.length y2) := E.cell 2; have Ef0 : wd.frozen? ⟨w23.heap.size, 0, none⟩ = false := E.free 0; have Ef1 : wd.frozen? ⟨w23.heap.size, 1, none⟩ = false := E.free 1; have Ef2 : wd.frozen? ⟨w23.heap.size, 2, none⟩ = false := E.free 2; have Ez := E.lt
                      have Y1 := Lib.hid (fun W (hW : Below wd.heap.size wd W) => ints_true W (X1.ints.keep hW) (HVd.keep hW))
                      have Y2 := Lib.hid (fun W (hW : Below wd.heap.size wd W) => ints_true W (X2.ints.keep hW) (HVd.keep hW))
                      have Y3 := Lib.hid (fun W (hW : Below wd.heap.size wd W) => ints_true W (X3.ints.keep hW) (X4.ints.keep hW))
                      have PD := Lib.hid Pd
                      clear own own2 up Bd Pd HVd X1 X2 X3 X4 hgw2 hcw Z1 Z2 ZX ZC ZU ZM LW HLM ZWH P24 HV22 P22 hlm hlt hi
                      go_wp2_with fail
                      refine (Y1.out _ (Below.refl _ _)).mono ?_
                      rintro e w25 ⟨rfl, b25⟩
                      have D : Blk w25 (w23.heap.size) [.int .i64 2, .slice x1 L.length y1, .slice x2 F1.length y2] 54 := E.below b25; have Dc0 : w25.cell? ⟨w23.heap.size, 0, none⟩ = some (.int .i64 2) := D.cell 0; have Dc1 : w25.cell? ⟨w23.heap.size, 1, none⟩ = some (.slice x1 L.length y1) := D.cell 1; have Dc2 : w25.cell? ⟨w23.heap.size, 2, none⟩ = some (.slice x2 F1.length y2) := D.cell 2; have Df0 : w25.frozen? ⟨w23.heap.size, 0, none⟩ = false := D.free 0; have Df1 : w25.frozen? ⟨w23.heap.size, 1, none⟩ = false := D.free 1; have Df2 : w25.frozen? ⟨w23.heap.size, 2, none⟩ = false := D.free 2; have Dz := D.lt
                      have q25 := Lib.hid b25
                      clear b25 Y1 E Ec0 Ec1 Ec2 Ef0 Ef1 Ef2 Ez
                      go_wp2_with fail
                      refine (Y2.out _ q25.out).mono ?_
                      rintro e w26 ⟨rfl, b26⟩
                      have E : Blk w26 (w23.heap.size) [.int .i64 2, .slice x1 L.length y1, .slice x2 F1.length y2] 54 := D.below b26; have Ec0 : w26.cell? ⟨w23.heap.size, 0, none⟩ = some (.int .i64 2) := E.cell 0; have Ec1 : w26.cell? ⟨w23.heap.size, 1, none⟩ = some (.slice x1 L.length y1) := E.cell 1; have Ec2 : w26.cell? ⟨w23.heap.size, 2, none⟩ = some (.slice x2 F1.length y2) := E.cell 2; have Ef0 : w26.frozen? ⟨w23.heap.size, 0, none⟩ = false := E.free 0; have Ef1 : w26.frozen? ⟨w23.heap.size, 1, none⟩ = false := E.free 1; have Ef2 : w26.frozen? ⟨w23.heap.size, 2, none⟩ = false := E.free 2; have Ez := E.lt
                      have q26 := Lib.hid (q25.out.trans (b26.mono q25.out.size))
                      clear b26 Y2 D Dc0 Dc1 Dc2 Df0 Df1 Df2 Dz
                      go_wp2_with fail
                      refine (Y3.out _ q26.out).mono ?_
                      rintro e w27 ⟨rfl, b27⟩
                      have p27 := PD.out.trans ((q26.out.trans (b27.mono q26.out.size)).mono PD.out.size)
                      clear b27 Y3
                      go_wp2_with fail
                      go_ret
                      exact ⟨rfl, p27⟩
                · have hF0 : (F3 != 0) = true := by simpa using hF3
                  go_wp2_with fail
                  go_ret
                  exact ⟨rfl, p21⟩
  · go_wp2_with fail
    refine (C3.out _ p1 (by omega)).mono ?_
    rintro e w2 ⟨rfl, b2⟩
    have p2 : Below w.heap.size w w2 := p1.trans (b2.mono p1.size)
    clear b2
    go_wp2_with fail
    go_ret
    exact ⟨rfl, p2⟩
end Go.Proofs.Ytbckfoldjlgabaa
