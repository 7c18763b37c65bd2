/- WALK of OpsMemory. -/
import Derived.Test.YtgcbjpdmnlanoaaOpsW
import Derived.Test.YtgcbjpdmnlanoaaOpsV
namespace Go.Proofs.Ytgcbjpdmnlanoaa
open Go.RowKit
open Fl (nan key canon)
theorem flip_flip {b : Nat} (h : b < 2 ^ 64) : Fl.flip (Fl.flip b) = b := by
  unfold Fl.flip
  split <;> split <;> omega
theorem flip_ne {b : Nat} : Fl.flip b ≠ b := by
  unfold Fl.flip
  split <;> omega
theorem thru_neg {F : Nat → Stp} : ∀ (n i : Nat) (k : Int) (v : Nat), (∀ j, i ≤ j → j < i + n → F j = ⟨4, 0, 0⟩) → v < 2 ^ 64 →
    (thru F n i ⟨k, v⟩).2 = 1 ∧ (thru F n i ⟨k, v⟩).1.key = k ∧ (nan v = false → (thru F n i ⟨k, v⟩).1.val = if n % 2 = 0 then v else Fl.flip v)
  | 0, _, _, _, _, _ => ⟨rfl, rfl, fun _ => rfl⟩
  | n + 1, i, k, v, h, hv => by
    have hF := h i (Nat.le_refl _) (by omega)
    have e1 : thru F (n + 1) i ⟨k, v⟩ = thru F n (i + 1) ⟨k, canon (Fl.flip v)⟩ := by
      show (if fate (F i) v = 1 then thru F n (i + 1) ⟨nkey (F i) k v, nval (F i) v⟩ else _) = _
      rw [hF]
      rfl
    rw [e1]
    obtain ⟨a, b, c⟩ := thru_neg n (i + 1) k (canon (Fl.flip v)) (fun j h1 h2 => h j (by omega) (by omega)) (Fl.canon_lt (Fl.flip_lt hv))
    refine ⟨a, b, fun hn => ?_⟩
    have hn' : nan (Fl.flip v) = false := (Fl.flip_nan hv).trans hn
    rw [Fl.canon_num hn'] at c ⊢
    rw [c hn', flip_flip hv]
    by_cases hp : n % 2 = 0
    · rw [if_pos hp, if_neg (by omega)]
    · rw [if_neg hp, if_pos (by omega)]
/-- the cells of a step -/
def opc (o : Stp) : List Value := [.int .i64 o.kind, .int .i64 o.n, .float .f64 o.x]
theorem opc_len (f : Nat → Stp) (i : Nat) : (opc (f i)).length = 3 := rfl
theorem opc_one (f : Nat → Stp) (i : Nat) (u : Value) (h : u ∈ opc (f i)) : u.oneCell' = true := by
  simp only [opc, List.mem_cons, List.not_mem_nil, or_false] at h
  rcases h with rfl | rfl | rfl <;> rfl
theorem Stps.lies {w : World} {b o len : Nat} {f : Nat → Stp} (h : Stps w b o len f) : Lies w b o 3 (fun i => opc (f i)) len :=
  ⟨h.lt, fun i k hi hk => by
    match k, hk with
    | 0, _ => exact h.c0 i hi
    | 1, _ => exact h.c1 i hi
    | 2, _ => exact h.c2 i hi⟩
theorem Lies.stps {w : World} {b o len : Nat} {f : Nat → Stp} (h : Lies w b o 3 (fun i => opc (f i)) len) (hok : ∀ i, i < len → (f i).ok) : Stps w b o len f :=
  ⟨h.lt, hok, fun i hi => h.at_ i 0 hi (by decide), fun i hi => h.at_ i 1 hi (by decide), fun i hi => h.at_ i 2 hi (by decide)⟩
theorem infoOp : (Try.prog.info? 40).map (fun i => (i.zero, i.size, i.bytes)) = some (some (.agg #[.int .i64 0, .int .i64 0, .float .f64 0]), 3, 24) := by kernel_rfl
/-- the list of OpsMemory: f, and four more -/
def memF (f : Nat → Stp) (len : Nat) : Nat → Stp := fun i => if i < len then f i else ⟨40 + ((i - len : Nat) : Int), 0, 0⟩
theorem memF_both (f : Nat → Stp) (len : Nat) : both (fun i => opc (f i)) len (fun i => opc ⟨40 + (i : Int), 0, 0⟩) = fun i => opc (memF f len i) := by
  funext i
  unfold both memF
  split <;> rfl
set_option maxRecDepth 100000 in
set_option maxHeartbeats 8000000 in
theorem mem_any (a : Option Addr) (len cap rb ro : Nat) (f : Nat → Stp) (r : Rc) (w : World) (hln : len ≤ 6000000000000) (ha : 0 < len → a = some ⟨rb, ro, none⟩) (hr : 0 < len → Stps w rb ro len f) (hok : r.ok) :
    Calls Try.prog 10 #[.slice a len cap, .agg #[.int .u64 r.key, .float .f64 r.val]] w fun e w' => e = .returned (.bool true) ∧ Below w.heap.size w w' := by
  have HR := Lib.hid hr
  have HA := Lib.hid ha
  have HO := Lib.hid hok
  have C0 := Lib.hid oawake_any
  have hl1 : (len : Int) ≤ 6000000000000 := by omega
  have hl0 : (0 : Int) ≤ (len : Int) := by omega
  obtain ⟨N, hN'⟩ : ∃ N, N = len + 4 := ⟨_, rfl⟩
  have hN := Lib.hid hN'
  obtain ⟨i0, hi, hz0, hz1, hz2⟩ := info_parts infoOp
  have HI := Lib.hid (And.intro hi (And.intro hz0 (And.intro hz1 hz2)))
  clear hi hz0 hz1 hz2 hr ha hok hN'
  go_enter Try.func10, Try.ntmps10
  go_wp2_with fail
  refine (C0.out _).mono ?_
  rintro e w1 ⟨rfl, hb⟩
  have p1 : Below w.heap.size w w1 := (by repeat' (first | with_reducible exact Below.refl _ _ | with_reducible assumption | with_reducible refine bel_drew ?_ | with_reducible refine bel_alloc ?_ _ | with_reducible refine bel_set ?_ ?_ _ | with_reducible refine bel_call ?_ (by assumption) | (dsimp only; omega) | (simp; done) | (simp; omega)))
  have q1 : Blk w1 w.heap.size [.int .u64 r.key, .float .f64 r.val] 31 := Blk.below (by repeat' (first | with_reducible assumption | (show (_ : List Value) = _; rfl) | with_reducible exact Blk.new _ _ rfl | (with_reducible refine Blk.new _ _ ?_; simp; done) | with_reducible apply Blk.set_eq | with_reducible apply Blk.other | with_reducible apply Blk.alloc | with_reducible apply Blk.drew | (simp; done) | (simp; omega))) hb
  clear hb C0
  go_wp2_with fail
  obtain ⟨hi, hz0, hz1, hz2⟩ := HI.out
  obtain ⟨w2, run2, own2, grow2⟩ := run_make_own (P := Try.prog) w1 w.heap.size 22 40 i0 _ 3 Try.underlying22 hi hz0 hz1 .i64 .i64 N (by rw [hz2]; have := hN.out; omega) (by unfold maxLen; have := hN.out; omega) p1.size
  rw [show (N : Int) = (len : Int) + 4 by have := hN.out; omega] at run2
  rw [run2]
  have b2 : Below w1.heap.size w1 w2 := (Below.refl _ _).grown grow2 (Nat.le_refl _) (fun _ h => by cases h)
  have p2 : Below w.heap.size w w2 := p1.trans (b2.mono p1.size)
  have q2 := q1.below b2
  have n2 : w.heap.size < w1.heap.size := q1.lt
  clear hi hz0 hz1 hz2 grow2 b2 p1 q1 run2
  generalize w1.heap.size = g at *
  obtain ⟨hi, hz0, hz1, hz2⟩ := HI.out
  have L2 : Hid (0 < len → Lies w2 rb ro 3 (fun i => opc (f i)) len) := Lib.hid (fun h => (HR.out h).lies.keep p2 (HR.out h).lt)
  have room2 : 0 + len ≤ N := by have := hN.out; omega
  go_wp2_with (at_builtin; refine wpList_append_in _ rfl (.tmp 22) (.tmp 23) 22 rfl w.heap.size 40 i0 3 Try.underlying22 hi hz1 g 0 N (fun i => opc (f i)) rfl own2 a len cap rb ro rfl (fun i => opc (f i)) (opc_len f) (opc_one f) HA.out L2.out room2 ?_; intro w3 own3 grow3)
  have p3 : Below w.heap.size w w3 := p2.trans ((Below.refl _ _).grown grow3 p2.size (fun k h => by cases h; omega))
  have q3 := q2.grown grow3 (fun h => by cases h; omega)
  have e3 : flat (both (fun i => opc (f i)) 0 fun i => opc (f i)) (0 + len) = flat (fun i => opc (memF f len i)) len := by
    rw [Nat.zero_add]
    exact flat_congr fun i hi => by unfold both memF; rw [if_neg (by omega), if_pos hi, Nat.sub_zero]
  rw [e3, Nat.zero_add] at own3
  clear e3 grow3 q2 p2 own2 L2 room2
  go_loopg [6, 7] 4 (fun k s6 s7 wr => ∃ (i : Nat), i ≤ 4 ∧ k = 4 - i ∧ s7 = .int .i64 i ∧ s6 = .slice (some ⟨g, 0, none⟩) (len + i) N ∧ Below w.heap.size w wr ∧ Blk wr w.heap.size [.int .u64 r.key, .float .f64 r.val] 31 ∧
    wr.ownsRow w.heap.size 40 3 (.slice (some ⟨g, 0, none⟩) (len + i) N) (len + i) (flat (fun j => opc (memF f len j)) (len + i)))
  case atStart => exact ⟨0, by omega, rfl, rfl, by simp, p3, q3, own3⟩
  case round =>
    clear p3 q3 own3
    obtain ⟨i, hi4, rfl, rfl, rfl, p, q, own⟩ := hrel
    have HOW := Lib.hid own
    by_cases hlt : i < 4
    · have hz2 : (i : Int) < 4 := by omega
      have hw1 : IntKind.i64.wrap ((i : Int) + 1) = (i : Int) + 1 := Go.IntWalk.i64_in _ (by omega)
      have room : len + i + 1 ≤ N := by have := hN.out; omega
      have L2 : Lies (wr.alloc (.cells #[.int .i64 (40 + (i : Int)), .int .i64 0, .float .f64 0] 40)) wr.heap.size 0 3 (fun _ => opc ⟨40 + (i : Int), 0, 0⟩) 1 :=
        Blk.flat (N := 1) (t := 40) (Blk.new [.int .i64 (40 + (i : Int)), .int .i64 0, .float .f64 0] _ rfl) (fun _ => rfl) (Nat.le_refl _)
      have HL2 := Lib.hid L2
      have own' := HOW.out.alloc (.cells #[.int .i64 (40 + (i : Int)), .int .i64 0, .float .f64 0] 40)
      have HOW' := Lib.hid own'
      clear own own' L2
      go_wp2_with (at_builtin; refine wpList_append_in _ rfl (.tmp 29) (.tmp 33) 22 rfl w.heap.size 40 i0 3 Try.underlying22 hi hz1 g (len + i) N _ rfl HOW'.out (some ⟨wr.heap.size, 0, none⟩) 1 1 wr.heap.size 0 rfl (fun _ => opc ⟨40 + (i : Int), 0, 0⟩) (fun _ => rfl) (fun _ => opc_one (fun _ => _) 0) (fun _ => rfl) (fun _ => HL2.out) room ?_; intro w4 own4 grow4)
      have hg : w.heap.size ≤ g := by omega
      have p4 : Below w.heap.size w w4 := (bel_alloc p _).trans ((Below.refl _ _).grown grow4 (bel_alloc p _).size (fun k h => by cases h; omega))
      have q4 := (q.alloc (.cells #[.int .i64 (40 + (i : Int)), .int .i64 0, .float .f64 0] 40)).grown grow4 (fun h => by cases h; omega)
      rw [flat_congr (el' := fun j => opc (memF f len j)) (fun j hj => by
        unfold both
        split
        · rfl
        · obtain rfl : j = len + i := by omega
          unfold memF
          rw [if_neg (by omega), show len + i - len = i by omega])] at own4
      clear grow4 HOW HOW' HL2 room
      go_roundg (4 - (i + 1))
      case measure => omega
      case rel => exact ⟨i + 1, by omega, rfl, (by first | rfl | simp), rfl, p4, q4, own4⟩
    · obtain rfl : i = 4 := by omega
      have own4 := HOW.out
      rw [← hN.out] at own4
      rw [show len + 4 = N from hN.out.symm]
      have qg := ownsRow_full own4
      obtain ⟨F, hF⟩ : ∃ F : Nat → List Value, F = fun j => opc (memF f len j) := ⟨_, rfl⟩
      rw [← hF] at qg
      have HFl : Hid (∀ i, i < len → F i = opc (f i)) := Lib.hid (fun i hi => by rw [hF]; unfold memF; dsimp only; rw [if_pos hi])
      have HF4 : Hid (∀ i, i < 4 → F (len + i) = opc ⟨40 + (i : Int), 0, 0⟩) := Lib.hid (fun i hi => by rw [hF]; unfold memF; dsimp only; rw [if_neg (by omega), Nat.add_sub_cancel_left])
      have HFm : Hid (∀ i, (F i).length = 3) := Lib.hid (fun _ => by rw [hF]; rfl)
      have HG : Hid (w.heap.size < g) := Lib.hid n2
      clear own4 own HOW HI hi hz0 hz1 hz2 i0 hF hi4 hlt hln n2
      have HS : Hid (∀ w', Blk w' g (flat F N) 40 → 0 < len → Stps w' g 0 len f) :=
        Lib.hid (fun w' h h0 => Lies.stps (((h.flat (m := 3) HFm.out (by have := hN.out; omega))).congr (fun i hi => HFl.out i hi)) (fun i hi => (HR.out h0).ok i hi))
      have CK : Hid (∀ A cap' w2, (0 < len → A = some ⟨g, 0, none⟩) → Blk w2 g (flat F N) 40 → Calls Try.prog 12 #[.slice A len cap'] w2 fun e w' => e = .returned (.int .i64 (chk f len)) ∧ Below w2.heap.size w2 w') :=
        Lib.hid (fun A cap' w2 hA hb => check_any A len cap' g 0 f w2 (by omega) hA (HS.out w2 hb))
      have CR : Hid (∀ A cap' w2, (0 < len → A = some ⟨g, 0, none⟩) → Blk w2 g (flat F N) 40 → Calls Try.prog 14 #[.slice A len cap', .agg #[.int .u64 r.key, .float .f64 r.val]] w2 fun e w' => e = .returned (.tuple #[.agg #[.int .u64 (runOps f len r).1.key, .float .f64 (runOps f len r).1.val], .int .i64 (runOps f len r).2]) ∧ Below w2.heap.size w2 w') :=
        Lib.hid (fun A cap' w2 hA hb => run_any A len cap' g 0 f r w2 (by omega) hA (HS.out w2 hb) HO.out _ rfl)
      have CS : Hid (∀ A cap' w2, (0 < len → A = some ⟨g, 0, none⟩) → Blk w2 g (flat F N) 40 → Below w.heap.size w w2 → Calls Try.prog 27 #[.slice A len cap', .slice a len cap] w2 fun e w' => e = .returned (.bool true) ∧ Below w2.heap.size w2 w') :=
        Lib.hid (fun A cap' w2 hA hbk hb => osteps_any A len cap' g 0 f a cap rb ro w2 (by omega) hA (HS.out w2 hbk) HA.out (fun h => (HR.out h).keep hb (HR.out h).lt hb.size))
      have C5 := Lib.hid (fun w => osame_any (runOps f len r).1 (runOps f len r).1 w)
      rw [sameR_self] at C5
      generalize runOps f len r = T at *
      generalize chk f len = ck at *
      have hk1 : (0 : Int) ≤ (len : Int) ∧ (len : Int) ≤ (N : Int) := by have := hN.out; omega
      clear HS HR HA
      go_wp2_with fail
      refine (CK.out _ _ _ (fun _ => rfl) qg).mono ?_
      rintro e w5 ⟨rfl, hb⟩
      have p5 : Below w.heap.size w w5 := (by repeat' (first | with_reducible exact Below.refl _ _ | with_reducible assumption | with_reducible refine bel_drew ?_ | with_reducible refine bel_alloc ?_ _ | with_reducible refine bel_set ?_ ?_ _ | with_reducible refine bel_call ?_ (by assumption) | (dsimp only; omega) | (simp; done) | (simp; omega)))
      have r5 := q.below hb
      have g5 := qg.below hb
      clear hb q qg p
      have r5c0 : w5.cell? ⟨w.heap.size, 0, none⟩ = some (.int .u64 r.key) := r5.cell 0; have r5c1 : w5.cell? ⟨w.heap.size, 1, none⟩ = some (.float .f64 r.val) := r5.cell 1; have r5z := r5.lt
      go_wp2_with fail
      refine wp_region_ghost (NewC _ 8 9 [.int .u64 T.1.key, .float .f64 T.1.val] [.int .u64 0, .float .f64 0] 31) (by kernel_rfl) (by kernel_rfl) NewC.loc (.begin (Below.refl _ _).drew rfl) ?_
      refine lexg_val (fun _ => by rfl) ?_; apply Exists.intro; refine ⟨?_, ?_⟩; ((intro g L w' hU hT; have hT' := hT.upd (i := 0) (by decide) (by decide); obtain ⟨hc, hf⟩ := bcell hT.bel; clear hT hU; go_simp; exact rfl)); simp only [Act.put, List.setIfInBounds_toArray, List.set_cons_zero, List.set_cons_succ]
      refine lexg_val (fun _ => by rfl) ?_; apply Exists.intro; refine ⟨?_, ?_⟩; ((intro g L w' hU hT; have hT' := hT.upd (i := 1) (by decide) (by decide); obtain ⟨hc, hf⟩ := bcell hT.bel; clear hT hU; go_simp; exact rfl)); simp only [Act.put, List.setIfInBounds_toArray, List.set_cons_zero, List.set_cons_succ]
      refine lexg_val (fun _ => by rfl) ?_; apply Exists.intro; refine ⟨?_, ?_⟩; ((intro g L w' hU hT; have hT' := hT.upd (i := 2) (by decide) (by decide); obtain ⟨hc, hf⟩ := bcell hT.bel; clear hT hU; go_simp; exact rfl)); simp only [Act.put, List.setIfInBounds_toArray, List.set_cons_zero, List.set_cons_succ]
      refine lexg_val (fun _ => by rfl) ?_; apply Exists.intro; refine ⟨?_, ?_⟩; ((intro g L w' hU hT; have hT' := hT.upd (i := 3) (by decide) (by decide); obtain ⟨hc, hf⟩ := bcell hT.bel; clear hT hU; go_simp; exact rfl)); simp only [Act.put, List.setIfInBounds_toArray, List.set_cons_zero, List.set_cons_succ]
      refine lexg_val (fun _ => by rfl) ?_; apply Exists.intro; refine ⟨?_, ?_⟩; ((intro g L w' hU hT; have hT' := hT.upd (i := 4) (by decide) (by decide); obtain ⟨hc, hf⟩ := bcell hT.bel; clear hT hU; go_simp; first | exact rfl | exact (CR.out _ _ _ (fun _ => rfl) (g5.below hT'.bel)).mono fun e w'' ⟨he, hb⟩ => ⟨he, hT'.next hb⟩)); simp only [Act.put, List.setIfInBounds_toArray, List.set_cons_zero, List.set_cons_succ]
      refine lexg_val (fun _ => by rfl) ?_; apply Exists.intro; refine ⟨?_, ?_⟩; ((intro g L w' hU hT; have hT' := hT.upd (i := 5) (by decide) (by decide); obtain ⟨hc, hf⟩ := bcell hT.bel; clear hT hU; go_simp; exact rfl)); simp only [Act.put, List.setIfInBounds_toArray, List.set_cons_zero, List.set_cons_succ]
      refine lexg_val (fun _ => by rfl) ?_; apply Exists.intro; refine ⟨?_, ?_⟩; ((intro g L w' hU hT; have hT' := hT.upd (i := 6) (by decide) (by decide); obtain ⟨hc, hf⟩ := bcell hT.bel; clear hT hU; go_simp; exact rfl)); simp only [Act.put, List.setIfInBounds_toArray, List.set_cons_zero, List.set_cons_succ]
      refine lexg_val (fun _ => by rfl) ?_; apply Exists.intro; refine ⟨?_, ?_⟩; ((intro g L w' hU hT; have hT' := hT.upd (i := 7) (by decide) (by decide); obtain ⟨hc, hf⟩ := bcell hT.bel; clear hT hU; go_simp; exact rfl)); simp only [Act.put, List.setIfInBounds_toArray, List.set_cons_zero, List.set_cons_succ]
      refine lexg_alloc (fun b => .pointer (some ⟨b, 0, none⟩)) (fun _ => by rfl) ?_ ?_; ((intro g L w' hU hT; refine ⟨w'.heap.size, _, ?_, hT.alloc (hU.closed.no (j := 9) rfl (by kernel_rfl) hU.not) (by decide)⟩; clear hT hU; go_simp)); simp only [Nat.reduceAdd]; simp only [Act.put, List.setIfInBounds_toArray, List.set_cons_zero, List.set_cons_succ]
      refine lexg_op (fun _ => by rfl) ?_; refine ⟨fun _ => undef, ?_, known_const _ _, ?_⟩; ((intro g L w' hU hT; have hK : L 8 = true := hU.yes (m := 8) rfl (by kernel_rfl); have hL := hU.not; have hT' := hT.store hK hL rfl; have hB := (hT.blk hK).2; rw [hL, if_neg (by decide)] at hB; have zc0 := hB.cell 0; have zf0 := hB.free 0; have zc1 := hB.cell 1; have zf1 := hB.free 1; simp only [List.getElem?_cons_zero, List.getElem?_cons_succ] at zc0 zc1; clear hT hU hK; go_simp; first | exact hT' | exact ⟨hT', rfl⟩)); simp only [Act.put]
      refine lexg_val (fun _ => by rfl) ?_; apply Exists.intro; refine ⟨?_, ?_⟩; ((intro g L w' hU hT; have hT' := hT.upd (i := 10) (by decide) (by decide); obtain ⟨hc, hf⟩ := bcell hT.bel; clear hT hU; go_simp; exact rfl)); simp only [Act.put, List.setIfInBounds_toArray, List.set_cons_zero, List.set_cons_succ]
      refine lexg_nil ?_; intro g w6 hT; have bel_w6 := hT.bel; have n_w6 := (hT.blk rfl).1; have q_w6 := (hT.blk rfl).2; clear hT; rw [if_pos rfl] at q_w6; dsimp only; generalize g 8 = bx at *; clear g
      have p6 : Below w.heap.size w w6 := p5.trans (bel_w6.mono p5.size)
      have r6 := r5.below bel_w6
      have g6 := g5.below bel_w6
      have nx : w5.heap.size ≤ bx := n_w6
      have nx0 : w.heap.size < bx := Nat.lt_of_lt_of_le r5.lt nx
      have nxg : g < bx := Nat.lt_of_lt_of_le g5.lt nx
      clear bel_w6 n_w6 nx r5 g5 r5c0 r5c1 r5z p5
      have r6c0 : w6.cell? ⟨w.heap.size, 0, none⟩ = some (.int .u64 r.key) := r6.cell 0; have r6c1 : w6.cell? ⟨w.heap.size, 1, none⟩ = some (.float .f64 r.val) := r6.cell 1; have r6z := r6.lt
      go_wp2_with fail
      refine wp_region_ghost (NewC _ 8 9 [.int .u64 T.1.key, .float .f64 T.1.val] [.int .u64 0, .float .f64 0] 31) (by kernel_rfl) (by kernel_rfl) NewC.loc (.begin (Below.refl _ _).drew rfl) ?_
      refine lexg_val (fun _ => by rfl) ?_; apply Exists.intro; refine ⟨?_, ?_⟩; ((intro g L w' hU hT; have hT' := hT.upd (i := 0) (by decide) (by decide); obtain ⟨hc, hf⟩ := bcell hT.bel; clear hT hU; go_simp; exact rfl)); simp only [Act.put, List.setIfInBounds_toArray, List.set_cons_zero, List.set_cons_succ]
      refine lexg_val (fun _ => by rfl) ?_; apply Exists.intro; refine ⟨?_, ?_⟩; ((intro g L w' hU hT; have hT' := hT.upd (i := 1) (by decide) (by decide); obtain ⟨hc, hf⟩ := bcell hT.bel; clear hT hU; go_simp; exact rfl)); simp only [Act.put, List.setIfInBounds_toArray, List.set_cons_zero, List.set_cons_succ]
      refine lexg_val (fun _ => by rfl) ?_; apply Exists.intro; refine ⟨?_, ?_⟩; ((intro g L w' hU hT; have hT' := hT.upd (i := 2) (by decide) (by decide); obtain ⟨hc, hf⟩ := bcell hT.bel; clear hT hU; go_simp; exact rfl)); simp only [Act.put, List.setIfInBounds_toArray, List.set_cons_zero, List.set_cons_succ]
      refine lexg_val (fun _ => by rfl) ?_; apply Exists.intro; refine ⟨?_, ?_⟩; ((intro g L w' hU hT; have hT' := hT.upd (i := 3) (by decide) (by decide); obtain ⟨hc, hf⟩ := bcell hT.bel; clear hT hU; go_simp; exact rfl)); simp only [Act.put, List.setIfInBounds_toArray, List.set_cons_zero, List.set_cons_succ]
      refine lexg_val (fun _ => by rfl) ?_; apply Exists.intro; refine ⟨?_, ?_⟩; ((intro g L w' hU hT; have hT' := hT.upd (i := 4) (by decide) (by decide); obtain ⟨hc, hf⟩ := bcell hT.bel; clear hT hU; go_simp; first | exact rfl | exact (CR.out _ _ _ (fun _ => rfl) (g6.below hT'.bel)).mono fun e w'' ⟨he, hb⟩ => ⟨he, hT'.next hb⟩)); simp only [Act.put, List.setIfInBounds_toArray, List.set_cons_zero, List.set_cons_succ]
      refine lexg_val (fun _ => by rfl) ?_; apply Exists.intro; refine ⟨?_, ?_⟩; ((intro g L w' hU hT; have hT' := hT.upd (i := 5) (by decide) (by decide); obtain ⟨hc, hf⟩ := bcell hT.bel; clear hT hU; go_simp; exact rfl)); simp only [Act.put, List.setIfInBounds_toArray, List.set_cons_zero, List.set_cons_succ]
      refine lexg_val (fun _ => by rfl) ?_; apply Exists.intro; refine ⟨?_, ?_⟩; ((intro g L w' hU hT; have hT' := hT.upd (i := 6) (by decide) (by decide); obtain ⟨hc, hf⟩ := bcell hT.bel; clear hT hU; go_simp; exact rfl)); simp only [Act.put, List.setIfInBounds_toArray, List.set_cons_zero, List.set_cons_succ]
      refine lexg_val (fun _ => by rfl) ?_; apply Exists.intro; refine ⟨?_, ?_⟩; ((intro g L w' hU hT; have hT' := hT.upd (i := 7) (by decide) (by decide); obtain ⟨hc, hf⟩ := bcell hT.bel; clear hT hU; go_simp; exact rfl)); simp only [Act.put, List.setIfInBounds_toArray, List.set_cons_zero, List.set_cons_succ]
      refine lexg_alloc (fun b => .pointer (some ⟨b, 0, none⟩)) (fun _ => by rfl) ?_ ?_; ((intro g L w' hU hT; refine ⟨w'.heap.size, _, ?_, hT.alloc (hU.closed.no (j := 9) rfl (by kernel_rfl) hU.not) (by decide)⟩; clear hT hU; go_simp)); simp only [Nat.reduceAdd]; simp only [Act.put, List.setIfInBounds_toArray, List.set_cons_zero, List.set_cons_succ]
      refine lexg_op (fun _ => by rfl) ?_; refine ⟨fun _ => undef, ?_, known_const _ _, ?_⟩; ((intro g L w' hU hT; have hK : L 8 = true := hU.yes (m := 8) rfl (by kernel_rfl); have hL := hU.not; have hT' := hT.store hK hL rfl; have hB := (hT.blk hK).2; rw [hL, if_neg (by decide)] at hB; have zc0 := hB.cell 0; have zf0 := hB.free 0; have zc1 := hB.cell 1; have zf1 := hB.free 1; simp only [List.getElem?_cons_zero, List.getElem?_cons_succ] at zc0 zc1; clear hT hU hK; go_simp; first | exact hT' | exact ⟨hT', rfl⟩)); simp only [Act.put]
      refine lexg_val (fun _ => by rfl) ?_; apply Exists.intro; refine ⟨?_, ?_⟩; ((intro g L w' hU hT; have hT' := hT.upd (i := 10) (by decide) (by decide); obtain ⟨hc, hf⟩ := bcell hT.bel; clear hT hU; go_simp; exact rfl)); simp only [Act.put, List.setIfInBounds_toArray, List.set_cons_zero, List.set_cons_succ]
      refine lexg_nil ?_; intro g w7 hT; have bel_w7 := hT.bel; have n_w7 := (hT.blk rfl).1; have q_w7 := (hT.blk rfl).2; clear hT; rw [if_pos rfl] at q_w7; dsimp only; generalize g 8 = bY at *; clear g
      have p7 : Below w.heap.size w w7 := p6.trans (bel_w7.mono p6.size)
      have r7 := r6.below bel_w7
      have g7 := g6.below bel_w7
      have x7 := q_w6.below bel_w7
      clear bel_w7 n_w7 r6 g6 r6c0 r6c1 r6z p6 q_w6
      have x7c0 : w7.cell? ⟨bx, 0, none⟩ = some (.int .u64 T.1.key) := x7.cell 0; have x7c1 : w7.cell? ⟨bx, 1, none⟩ = some (.float .f64 T.1.val) := x7.cell 1; have x7z := x7.lt
      have q_w7c0 : w7.cell? ⟨bY, 0, none⟩ = some (.int .u64 T.1.key) := q_w7.cell 0; have q_w7c1 : w7.cell? ⟨bY, 1, none⟩ = some (.float .f64 T.1.val) := q_w7.cell 1; have q_w7z := q_w7.lt
      have hE1 : (T.2 != T.2) = false := by simp
      have hE2 : (ck != ck) = false := by simp
      go_wp2_with fail
      refine (C5.out _).mono ?_
      rintro e w8 ⟨rfl, hb⟩
      have p8 : Below w.heap.size w w8 := (by repeat' (first | with_reducible exact Below.refl _ _ | with_reducible assumption | with_reducible refine bel_drew ?_ | with_reducible refine bel_alloc ?_ _ | with_reducible refine bel_set ?_ ?_ _ | with_reducible refine bel_call ?_ (by assumption) | (dsimp only; omega) | (simp; done) | (simp; omega)))
      have r8 := r7.below hb
      have g8 := g7.below hb
      have x8 := x7.below hb
      clear hb r7 g7 x7 x7c0 x7c1 x7z q_w7 q_w7c0 q_w7c1 q_w7z p7
      go_wp2_with fail
      refine (CS.out _ _ _ (fun _ => rfl) g8 p8).mono ?_
      rintro e w9 ⟨rfl, hb⟩
      have p9 : Below w.heap.size w w9 := (by repeat' (first | with_reducible exact Below.refl _ _ | with_reducible assumption | with_reducible refine bel_drew ?_ | with_reducible refine bel_alloc ?_ _ | with_reducible refine bel_set ?_ ?_ _ | with_reducible refine bel_call ?_ (by assumption) | (dsimp only; omega) | (simp; done) | (simp; omega)))
      have r9 := r8.below hb
      have g9 := g8.below hb
      have x9 := x8.below hb
      clear hb r8 g8 x8 p8
      go_wp2_with fail
      refine (CK.out _ _ _ (fun _ => rfl) g9).mono ?_
      rintro e w10 ⟨rfl, hb⟩
      have p10 : Below w.heap.size w w10 := (by repeat' (first | with_reducible exact Below.refl _ _ | with_reducible assumption | with_reducible refine bel_drew ?_ | with_reducible refine bel_alloc ?_ _ | with_reducible refine bel_set ?_ ?_ _ | with_reducible refine bel_call ?_ (by assumption) | (dsimp only; omega) | (simp; done) | (simp; omega)))
      have r10 := r9.below hb
      have g10 := g9.below hb
      have x10 := x9.below hb
      clear hb r9 g9 x9 p9
      go_wp2_with fail
      clear CS CR CK C5 hE1 hE2 hk1
      go_loopg [13] 4 (fun k s13 w' => ∃ (i : Nat), i ≤ 4 ∧ k = 4 - i ∧ s13 = .int .i64 i ∧ Below w.heap.size w w' ∧ Blk w' w.heap.size [.int .u64 r.key, .float .f64 r.val] 31 ∧ Blk w' g (flat F N) 40 ∧ Blk w' bx [.int .u64 T.1.key, .float .f64 T.1.val] 31)
      case atStart => exact ⟨0, by omega, rfl, rfl, p10, r10, g10, x10⟩
      case round =>
        clear p10 r10 g10 x10
        obtain ⟨i, hi4, rfl, rfl, p, rr, gg, xx⟩ := hrel
        by_cases hlt : i < 4
        · have hz2 : (i : Int) < 4 := by omega
          have hz3 : (0 : Int) ≤ (len : Int) + (i : Int) ∧ (len : Int) + (i : Int) < (N : Int) := by have := hN.out; omega
          have hz4 : ((len : Int) + (i : Int)).toNat = len + i := by omega
          have hw1 : IntKind.i64.wrap ((i : Int) + 1) = (i : Int) + 1 := Go.IntWalk.i64_in _ (by omega)
          have zc : wr.cell? ⟨g, (len + i) * 3, none⟩ = some (.int .i64 (40 + (i : Int))) := by
            have := gg.cell ((len + i) * 3 + 0)
            rw [flat_get (m := 3) HFm.out (by decide) (by have := hN.out; omega), HF4.out i hlt] at this
            exact this
          have zl := gg.lt
          have hE : ((40 + (i : Int)) != (40 + (i : Int))) = false := by simp
          go_wp2_with fail
          go_roundg (4 - (i + 1))
          case measure => omega
          case rel => exact ⟨i + 1, by omega, rfl, (by first | rfl | simp), p, rr, gg, xx⟩
        · obtain rfl : i = 4 := by omega
          go_wp2_with fail
          clear HF4 HFl hi4 hlt
          go_loopg [14] len (fun k s14 w' => ∃ (i : Nat), i ≤ len ∧ k = len - i ∧ s14 = .int .i64 i ∧ Below w.heap.size w w' ∧ Blk w' w.heap.size [.int .u64 r.key, .float .f64 r.val] 31 ∧ Blk w' g (flat (fun j => if j < i then opc ⟨4, 0, 0⟩ else F j) N) 40 ∧ Blk w' bx [.int .u64 T.1.key, .float .f64 T.1.val] 31)
          case atStart => exact ⟨0, Nat.zero_le _, rfl, rfl, p, rr, by rw [flat_congr (el' := F) (fun j hj => if_neg (Nat.not_lt_zero j))]; exact gg, xx⟩
          case round =>
            clear p rr gg xx
            obtain ⟨i, hi, rfl, rfl, p, rr, gg, xx⟩ := hrel
            by_cases hlt : i < len
            · have hz2 : (i : Int) < (len : Int) := by omega
              have hz3 : (0 : Int) ≤ (i : Int) ∧ (i : Int) < (N : Int) := by have := hN.out; omega
              have hw1 : IntKind.i64.wrap ((i : Int) + 1) = (i : Int) + 1 := Go.IntWalk.i64_in _ (by omega)
              have HFc : ∀ j, ((fun j => if j < i then opc ⟨4, 0, 0⟩ else F j) j).length = 3 := fun j => by dsimp only; split; rfl; exact HFm.out j
              have zc : ∀ k, k < 3 → wr.cell? ⟨g, i * 3 + k, none⟩ = (F i)[k]? := fun k hk => by
                rw [gg.cell, flat_get (m := 3) HFc hk (by have := hN.out; omega), if_neg (Nat.lt_irrefl i)]
              have zz : ∃ c0 c1 c2, F i = [c0, c1, c2] := by
                have := HFm.out i
                match F i, this with
                | [c0, c1, c2], _ => exact ⟨c0, c1, c2, rfl⟩
              obtain ⟨c0, c1, c2, hFi⟩ := zz
              have zc0 : wr.cell? ⟨g, i * 3, none⟩ = some c0 := by have := zc 0 (by decide); rw [hFi] at this; exact this
              have zc1 : wr.cell? ⟨g, i * 3 + 1, none⟩ = some c1 := by have := zc 1 (by decide); rw [hFi] at this; exact this
              have zc2 : wr.cell? ⟨g, i * 3 + 2, none⟩ = some c2 := by have := zc 2 (by decide); rw [hFi] at this; exact this
              have zf0 := gg.free (i * 3)
              have zf1 := gg.free (i * 3 + 1)
              have zf2 := gg.free (i * 3 + 2)
              have zl := gg.lt
              have HC := Lib.hid HFc
              clear zc hFi HFc
              go_wp2_with fail
              have gg' := gg.put (m := 3) (cs := opc ⟨4, 0, 0⟩) HC.out (show i < N by have := hN.out; omega) rfl
              rw [flat_congr (el' := fun j => if j < i + 1 then opc ⟨4, 0, 0⟩ else F j) (fun j hj => by
                unfold putAt
                by_cases h1 : j = i
                · rw [if_pos h1, if_pos (by omega)]
                · rw [if_neg h1]
                  by_cases h2 : j < i
                  · dsimp only; rw [if_pos h2, if_pos (by omega)]
                  · dsimp only; rw [if_neg h2, if_neg (by omega)])] at gg'
              have hgn : w.heap.size < g := HG.out
              have p' := setAll_below (b := g) (by omega) (opc ⟨4, 0, 0⟩) (i * 3) p
              have rr' := setAll_other (b := g) (by omega) (opc ⟨4, 0, 0⟩) (i * 3) rr
              have xx' := setAll_other (b := g) (by omega) (opc ⟨4, 0, 0⟩) (i * 3) xx
              clear p rr gg xx HC zc0 zc1 zc2 zf0 zf1 zf2 zl
              go_roundg (len - (i + 1))
              case measure => omega
              case rel => exact ⟨i + 1, hlt, rfl, (by first | rfl | simp), p', rr', gg', xx'⟩
            · obtain rfl : len = i := by omega
              have hz2 : ¬ ((len : Int) < (len : Int)) := by omega
              have hk1 : (0 : Int) ≤ (len : Int) ∧ (len : Int) ≤ (N : Int) := by have := hN.out; omega
              have HFc : ∀ j, ((fun j => if j < len then opc ⟨4, 0, 0⟩ else F j) j).length = 3 := fun j => by dsimp only; split; rfl; exact HFm.out j
              generalize hF2 : (fun j => if j < len then opc ⟨4, 0, 0⟩ else F j) = F2 at *
              have HS2 : ∀ w', Blk w' g (flat F2 N) 40 → 0 < len → Stps w' g 0 len (fun _ => ⟨4, 0, 0⟩) :=
                fun w' h _ => Lies.stps (((h.flat (m := 3) HFc (by have := hN.out; omega))).congr (fun i hi => by rw [← hF2]; dsimp only; rw [if_pos hi])) (fun _ _ => ⟨by decide, by decide, by decide, by decide, by decide⟩)
              have CR : Hid (∀ A cap' w2, (0 < len → A = some ⟨g, 0, none⟩) → Blk w2 g (flat F2 N) 40 → Calls Try.prog 14 #[.slice A len cap', .agg #[.int .u64 r.key, .float .f64 r.val]] w2 fun e w' => e = .returned (.tuple #[.agg #[.int .u64 (runOps (fun _ => ⟨4, 0, 0⟩) len r).1.key, .float .f64 (runOps (fun _ => ⟨4, 0, 0⟩) len r).1.val], .int .i64 (runOps (fun _ => ⟨4, 0, 0⟩) len r).2]) ∧ Below w2.heap.size w2 w') :=
                Lib.hid (fun A cap' w2 hA hb => run_any A len cap' g 0 _ r w2 (by omega) hA (HS2 w2 hb) HO.out _ rfl)
              have HT : Hid ((8 < len → (runOps (fun _ => ⟨4, 0, 0⟩) len r).2 = 0) ∧ (len ≤ 8 → (runOps (fun _ => ⟨4, 0, 0⟩) len r).2 = 1 ∧ (runOps (fun _ => ⟨4, 0, 0⟩) len r).1.key = r.key ∧ (nan r.val = false → (runOps (fun _ => ⟨4, 0, 0⟩) len r).1.val = if len % 2 = 0 then r.val else Fl.flip r.val))) := Lib.hid (by
                constructor
                · intro h
                  unfold runOps chk
                  rw [if_pos h, if_neg (by decide)]
                · intro h
                  unfold runOps
                  rw [if_pos (chk_of h (fun _ _ => by decide))]
                  obtain ⟨x1, x2, x3⟩ := thru_neg (F := fun _ => ⟨4, 0, 0⟩) len 0 r.key (canon r.val) (fun _ _ _ => rfl) (Fl.canon_lt HO.out.2.2)
                  refine ⟨x1, x2, fun hn => ?_⟩
                  rw [Fl.canon_num hn] at x3 ⊢
                  exact x3 hn)
              generalize runOps (fun _ => ⟨4, 0, 0⟩) len r = T2 at *
              have ne1 : g ≠ bx := by omega
              have ne0 : w.heap.size ≠ bx := by omega
              have le1 : w.heap.size ≤ bx := by omega
              clear HS2 HFc hF2 HFm
              have rrc0 : wr.cell? ⟨w.heap.size, 0, none⟩ = some (.int .u64 r.key) := rr.cell 0; have rrc1 : wr.cell? ⟨w.heap.size, 1, none⟩ = some (.float .f64 r.val) := rr.cell 1; have rrz := rr.lt
              go_wp2_with fail
              refine wp_region_cls (SetC _ _ bx 8 [.int .u64 T2.1.key, .float .f64 T2.1.val] [.int .u64 T.1.key, .float .f64 T.1.val] 31) (by kernel_rfl) (by kernel_rfl) (SetC.begin _ (by decide) p xx) ?_
              refine lex_op (by rfl) ?_; apply Exists.intro; refine ⟨?_, ?_⟩; ((intro L w' hL hcl hT; have hT' := hT.upd (k := 0) (by decide); obtain ⟨hc, hf⟩ := bcell hT.bel; clear hT hcl hL; go_simp; exact rfl)); simp only [Act.put, List.setIfInBounds_toArray, List.set_cons_zero, List.set_cons_succ]
              refine lex_op (by rfl) ?_; apply Exists.intro; refine ⟨?_, ?_⟩; ((intro L w' hL hcl hT; have hT' := hT.upd (k := 1) (by decide); obtain ⟨hc, hf⟩ := bcell hT.bel; clear hT hcl hL; go_simp; exact rfl)); simp only [Act.put, List.setIfInBounds_toArray, List.set_cons_zero, List.set_cons_succ]
              refine lex_op (by rfl) ?_; apply Exists.intro; refine ⟨?_, ?_⟩; ((intro L w' hL hcl hT; have hT' := hT.upd (k := 2) (by decide); obtain ⟨hc, hf⟩ := bcell hT.bel; clear hT hcl hL; go_simp; exact rfl)); simp only [Act.put, List.setIfInBounds_toArray, List.set_cons_zero, List.set_cons_succ]
              refine lex_op (by rfl) ?_; apply Exists.intro; refine ⟨?_, ?_⟩; ((intro L w' hL hcl hT; have hT' := hT.upd (k := 3) (by decide); have hB := hT.oth _ _ _ ne0 rr; have zc0 := hB.cell 0; have zc1 := hB.cell 1; simp only [List.getElem?_cons_zero, List.getElem?_cons_succ] at zc0 zc1; clear hT hcl hL hB; go_simp; exact rfl)); simp only [Act.put, List.setIfInBounds_toArray, List.set_cons_zero, List.set_cons_succ]
              refine lex_op (by rfl) ?_; apply Exists.intro; refine ⟨?_, ?_⟩; ((intro L w' hL hcl hT; have hT' := hT.upd (k := 4) (by decide); obtain ⟨hc, hf⟩ := bcell hT.bel; clear hT hcl hL; go_simp; first | exact rfl | exact (CR.out _ _ _ (fun _ => rfl) (hT'.oth _ _ _ ne1 gg)).mono fun e w'' ⟨he, hb⟩ => ⟨he, hT'.next hb⟩)); simp only [Act.put, List.setIfInBounds_toArray, List.set_cons_zero, List.set_cons_succ]
              refine lex_op (by rfl) ?_; apply Exists.intro; refine ⟨?_, ?_⟩; ((intro L w' hL hcl hT; have hT' := hT.upd (k := 5) (by decide); obtain ⟨hc, hf⟩ := bcell hT.bel; clear hT hcl hL; go_simp; exact rfl)); simp only [Act.put, List.setIfInBounds_toArray, List.set_cons_zero, List.set_cons_succ]
              refine lex_op (by rfl) ?_; apply Exists.intro; refine ⟨?_, ?_⟩; ((intro L w' hL hcl hT; have hT' := hT.upd (k := 6) (by decide); obtain ⟨hc, hf⟩ := bcell hT.bel; clear hT hcl hL; go_simp; exact rfl)); simp only [Act.put, List.setIfInBounds_toArray, List.set_cons_zero, List.set_cons_succ]
              refine lex_op (by rfl) ?_; apply Exists.intro; refine ⟨?_, ?_⟩; ((intro L w' hL hcl hT; have hT' := hT.upd (k := 7) (by decide); obtain ⟨hc, hf⟩ := bcell hT.bel; clear hT hcl hL; go_simp; exact rfl)); simp only [Act.put, List.setIfInBounds_toArray, List.set_cons_zero, List.set_cons_succ]
              refine lex_op (by rfl) ?_; apply Exists.intro; refine ⟨?_, ?_⟩; ((intro L w' hL hcl hT; have hT' := hT.store hL le1 rfl; have hB := hT.blk; rw [hL, if_neg (by decide)] at hB; have zc0 := hB.cell 0; have zf0 := hB.free 0; have zc1 := hB.cell 1; have zf1 := hB.free 1; simp only [List.getElem?_cons_zero, List.getElem?_cons_succ] at zc0 zc1; clear hT hcl hL; go_simp; first | exact ⟨hT', rfl⟩ | exact hT')); simp only [Act.put]
              refine lex_op (by rfl) ?_; apply Exists.intro; refine ⟨?_, ?_⟩; ((intro L w' hL hcl hT; have hT' := hT.upd (k := 9) (by decide); obtain ⟨hc, hf⟩ := bcell hT.bel; clear hT hcl hL; go_simp; exact rfl)); simp only [Act.put, List.setIfInBounds_toArray, List.set_cons_zero, List.set_cons_succ]
              refine lex_nil ?_
              intro w5 hT
              have p5 := hT.bel
              have q5 := hT.blk
              rw [if_pos rfl] at q5
              have r5 := hT.oth _ _ _ ne0 rr
              clear hT rr gg xx p rrc0 rrc1 rrz CR
              have q5c0 : w5.cell? ⟨bx, 0, none⟩ = some (.int .u64 T2.1.key) := q5.cell 0; have q5c1 : w5.cell? ⟨bx, 1, none⟩ = some (.float .f64 T2.1.val) := q5.cell 1; have q5z := q5.lt
              have r5c0 : w5.cell? ⟨w.heap.size, 0, none⟩ = some (.int .u64 r.key) := r5.cell 0; have r5c1 : w5.cell? ⟨w.heap.size, 1, none⟩ = some (.float .f64 r.val) := r5.cell 1; have r5z := r5.lt
              obtain ⟨hT8, hT9⟩ := HT.out
              have hnn := neq_self 29 HO.out.2.2
              by_cases h8 : 8 < len
              · have hz8 : (8 : Int) < (len : Int) := by omega
                have hf := hT8 h8
                have hf0 : (T2.2 == 0) = true := by rw [hf]; rfl
                clear hT8 hT9 hf
                go_wp2_with fail
                go_ret
                exact ⟨rfl, p5⟩
              · have hz8 : ¬ (8 : Int) < (len : Int) := by omega
                obtain ⟨y1, y2, y3⟩ := hT9 (by omega)
                have y1' : (T2.2 == 1) = true := by rw [y1]; rfl
                have y2' : (T2.1.key == r.key) = true := by rw [y2]; simp
                clear hT8 hT9 y1 y2
                cases hn : nan r.val with
                | true =>
                  rw [hn] at hnn
                  clear y3 hn
                  go_wp2_with fail
                  go_ret
                  exact ⟨rfl, p5⟩
                | false =>
                  rw [hn] at hnn
                  have y4 := y3 hn
                  have C7 := Lib.hid (fun w => rsame_any T2.1.val r.val w)
                  rw [y4] at C7
                  by_cases hp : len % 2 = 0
                  · have hp1 : ((len : Int) % 2 == 0) = true := by rw [show (len : Int) % 2 = 0 by omega]; rfl
                    rw [if_pos hp, decide_eq_true rfl] at C7
                    rw [if_pos hp] at y4
                    rw [y4] at q5c1
                    clear y3 hn y4 hp q5
                    go_wp2_with fail
                    refine (C7.out _).mono ?_
                    rintro e w6 ⟨rfl, rfl⟩
                    go_wp2_with fail
                    go_ret
                    exact ⟨rfl, p5⟩
                  · have hp1 : ((len : Int) % 2 == 0) = false := by rw [show (len : Int) % 2 = 1 by omega]; rfl
                    rw [if_neg hp, decide_eq_false flip_ne] at C7
                    rw [if_neg hp] at y4
                    rw [y4] at q5c1
                    clear y3 hn y4 hp q5
                    go_wp2_with fail
                    refine (C7.out _).mono ?_
                    rintro e w6 ⟨rfl, rfl⟩
                    go_wp2_with fail
                    go_ret
                    exact ⟨rfl, p5⟩
end Go.Proofs.Ytgcbjpdmnlanoaa
