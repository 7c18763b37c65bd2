/- WALK of AggOrder. -/
import Derived.Test.YtelofaceadlfmaaDoorAggV
namespace Go.Proofs.YtelofaceadlfmaaDoor
open Go.RowKit Fl
set_option maxRecDepth 100000 in
set_option maxHeartbeats 8000000 in
theorem lorder_any (k : Int) (a : Option Addr) (len cap rb ro : Nat) (f : Nat → Nat) (at' : Int) (w : World) (ht : Tab w) (hlc : len ≤ cap) (hcm : cap ≤ 9223372036854775807) (ha : 0 < len → a = some ⟨rb, ro, none⟩) (hr : 0 < len → Fls w rb ro len f) :
    Calls Tryd.prog 7 #[.int .i64 k, .slice a len cap, .int .i64 at'] w fun e w' => e = .returned (.bool true) ∧ Below w.heap.size w w' := by
  have C0 := Lib.hid (aawake_any w ht)
  have HR := Lib.hid hr
  have hlen1 : (len : Int) ≤ 9223372036854775807 := by omega
  have CG : Hid (∀ w2, Below w.heap.size w w2 → Calls Tryd.prog 20 #[.int .i64 k, .slice a len cap] w2 fun e w' => e = .returned (.agg #[.bool (gath k f 0 len).has, .int .u64 (gath k f 0 len).bits]) ∧ Below w2.heap.size w2 w') :=
    Lib.hid (fun w2 hb => gathered_any k a len cap rb ro f w2 (by omega) ha (fun h => (HR.out h).keep hb (HR.out h).lt))
  clear ht hr
  by_cases hl : len = 0
  · subst hl
    rw [show gath k f 0 0 = ⟨false, 0⟩ from rfl] at CG
    dsimp only at CG
    clear HR ha hlc hcm hlen1
    go_enter Tryd.func7, Tryd.ntmps7
    go_wp2_with fail
    refine C0.out.mono ?_
    rintro e w1 ⟨rfl, hb⟩
    have p1 : Below w.heap.size w w1 := (by repeat' (first | with_reducible exact Below.refl _ _ | with_reducible assumption | with_reducible refine bel_drew ?_ | with_reducible refine bel_alloc ?_ _ | with_reducible refine bel_set ?_ ?_ _ | with_reducible refine bel_call ?_ (by assumption) | (dsimp only; omega) | (simp; done) | (simp; omega)))
    clear hb C0
    go_wp2_with fail
    refine (CG.out _ p1).mono ?_
    rintro e w2 ⟨rfl, hb⟩
    have p2 : Below w.heap.size w w2 := (by repeat' (first | with_reducible exact Below.refl _ _ | with_reducible assumption | with_reducible refine bel_drew ?_ | with_reducible refine bel_alloc ?_ _ | with_reducible refine bel_set ?_ ?_ _ | with_reducible refine bel_call ?_ (by assumption) | (dsimp only; omega) | (simp; done) | (simp; omega)))
    clear hb p1
    go_wp2_with fail
    go_ret
    exact ⟨rfl, (by repeat' (first | with_reducible exact Below.refl _ _ | with_reducible assumption | with_reducible refine bel_drew ?_ | with_reducible refine bel_alloc ?_ _ | with_reducible refine bel_set ?_ ?_ _ | with_reducible refine bel_call ?_ (by assumption) | (dsimp only; omega) | (simp; done) | (simp; omega)))⟩
  · obtain ⟨kk, hkl, hk⟩ := pick_below at' len (by omega) (by omega)
    obtain rfl := ha (by omega)
    have hfl := HR.out (by omega)
    have ho : ∀ i, i < len → f i < 2 ^ 64 := hfl.ok
    have hk1 : (0 : Int) ≤ (kk : Int) ∧ (kk : Int) ≤ (cap : Int) := by omega
    have hk2 : (0 : Int) ≤ (kk : Int) ∧ (kk : Int) ≤ (len : Int) := by omega
    have hck : ¬ (cap = kk) := by omega
    have hc0 : ¬ (cap = 0) := by omega
    have hl0 : ((len : Int) == 0) = false := by simp; omega
    have CH : Hid (∀ A cap' w2, (0 < kk → A = some ⟨rb, ro, none⟩) → Below w.heap.size w w2 → Calls Tryd.prog 20 #[.int .i64 k, .slice A kk cap'] w2 fun e w' => e = .returned (.agg #[.bool (gath k f 0 kk).has, .int .u64 (gath k f 0 kk).bits]) ∧ Below w2.heap.size w2 w') :=
      Lib.hid (fun A cap' w2 hA hb => gathered_any k A kk cap' rb ro f w2 (by omega) hA (fun h => (hfl.take (by omega)).keep hb hfl.lt))
    have CT : Hid (∀ A cap' w2, (0 < len - kk → A = some ⟨rb, ro + kk, none⟩) → Below w.heap.size w w2 → Calls Tryd.prog 20 #[.int .i64 k, .slice A (len - kk) cap'] w2 fun e w' => e = .returned (.agg #[.bool (gath k f kk (len - kk)).has, .int .u64 (gath k f kk (len - kk)).bits]) ∧ Below w2.heap.size w2 w') :=
      Lib.hid (fun A cap' w2 hA hb => by
        have := gathered_any k A (len - kk) cap' rb (ro + kk) (fun i => f (kk + i)) w2 (by omega) hA (fun h => (hfl.drop (by omega)).keep hb hfl.lt)
        rw [gath_shift] at this
        exact this)
    have oH : (gath k f 0 kk).ok := gath_ok fun i hi => by rw [Nat.zero_add]; exact ho i (by omega)
    have oT : (gath k f kk (len - kk)).ok := gath_ok fun i hi => ho _ (by omega)
    have hadd : merge k (gath k f 0 kk) (gath k f kk (len - kk)) = gath k f 0 len := by
      have := gath_add (k := k) (f := f) (o := 0) (m := kk) (fun i hi => by rw [Nat.zero_add]; exact ho i (by omega)) (n := len - kk) (fun i hi => by rw [Nat.zero_add]; exact ho _ (by omega))
      rw [Nat.zero_add, show kk + (len - kk) = len by omega] at this
      exact this
    have CM1 := Lib.hid (fun w => merge_any k _ _ w oH oT)
    have CM2 := Lib.hid (fun w => merge_any k _ _ w oT oH)
    rw [merge_comm oT oH] at CM2
    rw [hadd] at CM1 CM2
    have hcount : k = 1 → gath k f 0 len = ⟨true, len⟩ := fun h => by
      subst h
      obtain ⟨m, rfl⟩ : ∃ m, len = m + 1 := ⟨len - 1, by omega⟩
      exact gath_count (by omega)
    have HCo := Lib.hid hcount
    have HO := Lib.hid ho
    clear hadd oH oT ha hl hcount ho
    generalize gath k f 0 kk = H at *
    generalize gath k f kk (len - kk) = T at *
    obtain ⟨G, hG⟩ : ∃ G, gath k f 0 len = G := ⟨_, rfl⟩
    rw [hG] at CG CM1 CM2
    have HG := Lib.hid hG
    clear hG
    go_enter Tryd.func7, Tryd.ntmps7
    go_wp2_with fail
    refine C0.out.mono ?_
    rintro e w1 ⟨rfl, hb⟩
    have p1 : Below w.heap.size w w1 := (by repeat' (first | with_reducible exact Below.refl _ _ | with_reducible assumption | with_reducible refine bel_drew ?_ | with_reducible refine bel_alloc ?_ _ | with_reducible refine bel_set ?_ ?_ _ | with_reducible refine bel_call ?_ (by assumption) | (dsimp only; omega) | (simp; done) | (simp; omega)))
    clear hb C0
    go_wp2_with fail
    refine (CG.out _ p1).mono ?_
    rintro e w2 ⟨rfl, hb⟩
    have p2 : Below w.heap.size w w2 := (by repeat' (first | with_reducible exact Below.refl _ _ | with_reducible assumption | with_reducible refine bel_drew ?_ | with_reducible refine bel_alloc ?_ _ | with_reducible refine bel_set ?_ ?_ _ | with_reducible refine bel_call ?_ (by assumption) | (dsimp only; omega) | (simp; done) | (simp; omega)))
    clear hb p1 CG
    go_wp2_with fail
    rw [hk]
    refine wp_forget (X := fun W => Below w.heap.size w W ∧ Blk W w2.heap.size [.bool G.has, .int .u64 G.bits] 27 ∧ Blk W (w2.heap.size + 1) [.bool false, .int .u64 0] 27) ⟨(by repeat' (first | with_reducible exact Below.refl _ _ | with_reducible assumption | with_reducible refine bel_drew ?_ | with_reducible refine bel_alloc ?_ _ | with_reducible refine bel_set ?_ ?_ _ | with_reducible refine bel_call ?_ (by assumption) | (dsimp only; omega) | (simp; done) | (simp; omega))), (by repeat' (first | with_reducible assumption | (show (_ : List Value) = _; rfl) | with_reducible exact Blk.new _ _ rfl | (with_reducible refine Blk.new _ _ ?_; simp; done) | with_reducible apply Blk.set_eq | with_reducible apply Blk.other | with_reducible apply Blk.alloc | with_reducible apply Blk.drew | (simp; done) | (simp; omega))), (by repeat' (first | with_reducible assumption | (show (_ : List Value) = _; rfl) | with_reducible exact Blk.new _ _ rfl | (with_reducible refine Blk.new _ _ ?_; simp; done) | with_reducible apply Blk.set_eq | with_reducible apply Blk.other | with_reducible apply Blk.alloc | with_reducible apply Blk.drew | (simp; done) | (simp; omega)))⟩ ?_
    have n2 := p2.size
    clear p2
    rintro w3 ⟨p3, q3, r3⟩
    have le8 : w.heap.size ≤ w2.heap.size := n2
    have le10 : w.heap.size ≤ w2.heap.size + 1 := by omega
    have ne8 : w2.heap.size ≠ w2.heap.size + 1 := by omega
    clear n2
    generalize w2.heap.size + 1 = b10 at *
    generalize w2.heap.size = b8 at *
    go_loopg [11] len (fun g s11 wr => ∃ (j : Nat) (z : Int), j ≤ len ∧ g = j ∧ z = (j : Int) - 1 ∧ s11 = .int .i64 z ∧ Below w.heap.size w wr ∧ Blk wr b8 [.bool G.has, .int .u64 G.bits] 27 ∧ Blk wr b10 [.bool (gath k f j (len - j)).has, .int .u64 (gath k f j (len - j)).bits] 27)
    case atStart => exact ⟨len, _, Nat.le_refl _, rfl, rfl, rfl, p3, q3, by rw [Nat.sub_self]; exact r3⟩
    case round =>
      clear p3 q3 r3
      obtain ⟨j, z, hj, rfl, hz, rfl, p, q, r⟩ := hrel
      by_cases hj0 : 0 < gk
      · obtain ⟨m, rfl⟩ : ∃ m, gk = m + 1 := ⟨gk - 1, by omega⟩
        obtain rfl : z = (m : Int) := by omega
        have hz2 : (m : Int) < (len : Int) := by omega
        have hm0 : (0 : Int) ≤ (m : Int) := by omega
        have hw1 : IntKind.i64.wrap ((m : Int) - 1) = (m : Int) - 1 := Go.IntWalk.i64_in _ (by omega)
        obtain ⟨rz, x0⟩ := hfl.cells (show m < len by omega) (Below.refl _ w)
        have ofx := HO.out m (by omega)
        have og : (gath k f (m + 1) (len - (m + 1))).ok := gath_ok fun i hi => HO.out _ (by omega)
        have C1 := Lib.hid (fun w => aof_any k (f m) w ofx)
        have C2 := Lib.hid (fun w => merge_any k (gath k f (m + 1) (len - (m + 1))) (ofV k (f m)) w og (ofV_ok ofx))
        have hG : Hid (gath k f m (len - m) = merge k (gath k f (m + 1) (len - (m + 1))) (ofV k (f m))) := Lib.hid (by
          have := gath_front (k := k) (f := f) (o := m) (n := len - (m + 1)) (fun i hi => HO.out _ (by omega))
          rw [show len - m = len - (m + 1) + 1 by omega]
          exact this.symm)
        generalize merge k (gath k f (m + 1) (len - (m + 1))) (ofV k (f m)) = mv at *
        generalize ofV k (f m) = o at *
        generalize gath k f (m + 1) (len - (m + 1)) = gi at *
        generalize f m = x at *
        clear ofx og hj hz hj0
        go_wp2_with fail
        refine wp_region_cls (SetC _ _ b10 9 [.bool mv.has, .int .u64 mv.bits] [.bool gi.has, .int .u64 gi.bits] 27) (by kernel_rfl) (by kernel_rfl) (SetC.begin _ (by decide) p r) ?_
        refine lex_op (by rfl) ?_; apply Exists.intro; refine ⟨?_, ?_⟩; ((intro L w' hL hcl hT; have hT' := hT.upd (k := 0) (by decide); obtain ⟨hc, hf⟩ := bcell hT.bel; clear hT hcl hL; go_simp; exact rfl)); simp only [Act.put, List.setIfInBounds_toArray, List.set_cons_zero, List.set_cons_succ]
        refine lex_op (by rfl) ?_; apply Exists.intro; refine ⟨?_, ?_⟩; ((intro L w' hL hcl hT; have hT' := hT.upd (k := 1) (by decide); have hs8 := hcl.no (j := 8) (i := 1) rfl (by kernel_rfl) hL; have hs9 := hcl.no (j := 9) (i := 8) rfl (by kernel_rfl) hs8; have hB := hT.blk; rw [hs9, if_neg (by decide)] at hB; have zc0 := hB.cell 0; have zc1 := hB.cell 1; simp only [List.getElem?_cons_zero, List.getElem?_cons_succ] at zc0 zc1; clear hT hcl hL hs8 hs9 hB; go_simp; exact rfl)); simp only [Act.put, List.setIfInBounds_toArray, List.set_cons_zero, List.set_cons_succ]
        refine lex_op (by rfl) ?_; apply Exists.intro; refine ⟨?_, ?_⟩; ((intro L w' hL hcl hT; have hT' := hT.upd (k := 2) (by decide); obtain ⟨hc, hf⟩ := bcell hT.bel; clear hT hcl hL; go_simp; exact rfl)); simp only [Act.put, List.setIfInBounds_toArray, List.set_cons_zero, List.set_cons_succ]
        refine lex_op (by rfl) ?_; apply Exists.intro; refine ⟨?_, ?_⟩; ((intro L w' hL hcl hT; have hT' := hT.upd (k := 3) (by decide); obtain ⟨hc, hf⟩ := bcell hT.bel; clear hT hcl hL; go_simp; exact rfl)); simp only [Act.put, List.setIfInBounds_toArray, List.set_cons_zero, List.set_cons_succ]
        refine lex_op (by rfl) ?_; apply Exists.intro; refine ⟨?_, ?_⟩; ((intro L w' hL hcl hT; have hT' := hT.upd (k := 4) (by decide); obtain ⟨hc, hf⟩ := bcell hT.bel; clear hT hcl hL; go_simp; exact rfl)); simp only [Act.put, List.setIfInBounds_toArray, List.set_cons_zero, List.set_cons_succ]
        refine lex_op (by rfl) ?_; apply Exists.intro; refine ⟨?_, ?_⟩; ((intro L w' hL hcl hT; have hT' := hT.upd (k := 5) (by decide); obtain ⟨hc, hf⟩ := bcell hT.bel; clear hT hcl hL; go_simp; exact rfl)); simp only [Act.put, List.setIfInBounds_toArray, List.set_cons_zero, List.set_cons_succ]
        refine lex_op (by rfl) ?_; apply Exists.intro; refine ⟨?_, ?_⟩; ((intro L w' hL hcl hT; have hT' := hT.upd (k := 6) (by decide); obtain ⟨hc, hf⟩ := bcell hT.bel; clear hT hcl hL; go_simp; exact rfl)); simp only [Act.put, List.setIfInBounds_toArray, List.set_cons_zero, List.set_cons_succ]
        refine lex_op (by rfl) ?_; apply Exists.intro; refine ⟨?_, ?_⟩; ((intro L w' hL hcl hT; have hT' := hT.upd (k := 7) (by decide); obtain ⟨hc, hf⟩ := bcell hT.bel; clear hT hcl hL; go_simp; first | exact rfl | exact (C1.out _).mono fun e w'' ⟨he, hb⟩ => ⟨he, hT'.next hb⟩)); simp only [Act.put, List.setIfInBounds_toArray, List.set_cons_zero, List.set_cons_succ]
        refine lex_op (by rfl) ?_; apply Exists.intro; refine ⟨?_, ?_⟩; ((intro L w' hL hcl hT; have hT' := hT.upd (k := 8) (by decide); obtain ⟨hc, hf⟩ := bcell hT.bel; clear hT hcl hL; go_simp; first | exact rfl | exact (C2.out _).mono fun e w'' ⟨he, hb⟩ => ⟨he, hT'.next hb⟩)); simp only [Act.put, List.setIfInBounds_toArray, List.set_cons_zero, List.set_cons_succ]
        refine lex_op (by rfl) ?_; apply Exists.intro; refine ⟨?_, ?_⟩; ((intro L w' hL hcl hT; have hT' := hT.store hL le10 rfl; have hB := hT.blk; rw [hL, if_neg (by decide)] at hB; have zc0 := hB.cell 0; have zf0 := hB.free 0; have zc1 := hB.cell 1; have zf1 := hB.free 1; simp only [List.getElem?_cons_zero, List.getElem?_cons_succ] at zc0 zc1; clear hT hcl hL; go_simp; first | exact ⟨hT', rfl⟩ | exact hT')); simp only [Act.put]
        refine lex_nil ?_
        intro w5 hT
        have p5 := hT.bel
        have r5 := hT.blk
        rw [if_pos rfl] at r5
        have q5 := hT.oth _ _ _ ne8 q
        clear hT p q r
        go_wp2_with fail
        go_roundg m
        case measure => omega
        case rel => exact ⟨m, _, by omega, rfl, rfl, rfl, p5, q5, by rw [hG.out]; exact r5⟩
      · obtain rfl : gk = 0 := by omega
        obtain rfl : z = -1 := by omega
        rw [Nat.sub_zero, HG.out] at r
        have HGG := Lib.hid HG.out
        rw [HGG.out] at HCo
        clear HG HO hj hz hj0 HGG
        go_wp2_with fail
        refine (CH.out _ _ _ (fun _ => rfl) p).mono ?_
        rintro e w5 ⟨rfl, hb⟩
        have p5 : Below w.heap.size w w5 := (by repeat' (first | with_reducible exact Below.refl _ _ | with_reducible assumption | with_reducible refine bel_drew ?_ | with_reducible refine bel_alloc ?_ _ | with_reducible refine bel_set ?_ ?_ _ | with_reducible refine bel_call ?_ (by assumption) | (dsimp only; omega) | (simp; done) | (simp; omega)))
        have q5 := q.below hb
        have r5 := r.below hb
        clear hb p q r
        go_wp2_with fail
        refine (CT.out _ _ _ (fun _ => by first | rfl | (split <;> rfl) | skip) (by repeat' (first | with_reducible exact Below.refl _ _ | with_reducible assumption | with_reducible refine bel_drew ?_ | with_reducible refine bel_alloc ?_ _ | with_reducible refine bel_set ?_ ?_ _ | with_reducible refine bel_call ?_ (by assumption) | (dsimp only; omega) | (simp; done) | (simp; omega)))).mono ?_
        rintro e w6 ⟨rfl, hb⟩
        have p6 : Below w.heap.size w w6 := (by repeat' (first | with_reducible exact Below.refl _ _ | with_reducible assumption | with_reducible refine bel_drew ?_ | with_reducible refine bel_alloc ?_ _ | with_reducible refine bel_set ?_ ?_ _ | with_reducible refine bel_call ?_ (by assumption) | (dsimp only; omega) | (simp; done) | (simp; omega)))
        have q6 : Blk w6 b8 [.bool G.has, .int .u64 G.bits] 27 := Blk.below (by repeat' (first | with_reducible assumption | (show (_ : List Value) = _; rfl) | with_reducible exact Blk.new _ _ rfl | (with_reducible refine Blk.new _ _ ?_; simp; done) | with_reducible apply Blk.set_eq | with_reducible apply Blk.other | with_reducible apply Blk.alloc | with_reducible apply Blk.drew | (simp; done) | (simp; omega))) hb
        have r6 : Blk w6 b10 [.bool G.has, .int .u64 G.bits] 27 := Blk.below (by repeat' (first | with_reducible assumption | (show (_ : List Value) = _; rfl) | with_reducible exact Blk.new _ _ rfl | (with_reducible refine Blk.new _ _ ?_; simp; done) | with_reducible apply Blk.set_eq | with_reducible apply Blk.other | with_reducible apply Blk.alloc | with_reducible apply Blk.drew | (simp; done) | (simp; omega))) hb
        have s6 : Blk w6 w5.heap.size [.bool H.has, .int .u64 H.bits] 27 := Blk.below (by repeat' (first | with_reducible assumption | (show (_ : List Value) = _; rfl) | with_reducible exact Blk.new _ _ rfl | (with_reducible refine Blk.new _ _ ?_; simp; done) | with_reducible apply Blk.set_eq | with_reducible apply Blk.other | with_reducible apply Blk.alloc | with_reducible apply Blk.drew | (simp; done) | (simp; omega))) hb
        clear hb p5 q5 r5
        go_wp2_with fail
        have n6 : w5.heap.size < w6.heap.size := s6.lt
        refine wp_forget (X := fun W => Below w.heap.size w W ∧ Blk W b8 [.bool G.has, .int .u64 G.bits] 27 ∧ Blk W b10 [.bool G.has, .int .u64 G.bits] 27 ∧ Blk W w5.heap.size [.bool H.has, .int .u64 H.bits] 27 ∧ Blk W w6.heap.size [.bool T.has, .int .u64 T.bits] 27) ⟨(by repeat' (first | with_reducible exact Below.refl _ _ | with_reducible assumption | with_reducible refine bel_drew ?_ | with_reducible refine bel_alloc ?_ _ | with_reducible refine bel_set ?_ ?_ _ | with_reducible refine bel_call ?_ (by assumption) | (dsimp only; omega) | (simp; done) | (simp; omega))), (by repeat' (first | with_reducible assumption | (show (_ : List Value) = _; rfl) | with_reducible exact Blk.new _ _ rfl | (with_reducible refine Blk.new _ _ ?_; simp; done) | with_reducible apply Blk.set_eq | with_reducible apply Blk.other | with_reducible apply Blk.alloc | with_reducible apply Blk.drew | (simp; done) | (simp; omega))), (by repeat' (first | with_reducible assumption | (show (_ : List Value) = _; rfl) | with_reducible exact Blk.new _ _ rfl | (with_reducible refine Blk.new _ _ ?_; simp; done) | with_reducible apply Blk.set_eq | with_reducible apply Blk.other | with_reducible apply Blk.alloc | with_reducible apply Blk.drew | (simp; done) | (simp; omega))), (by repeat' (first | with_reducible assumption | (show (_ : List Value) = _; rfl) | with_reducible exact Blk.new _ _ rfl | (with_reducible refine Blk.new _ _ ?_; simp; done) | with_reducible apply Blk.set_eq | with_reducible apply Blk.other | with_reducible apply Blk.alloc | with_reducible apply Blk.drew | (simp; done) | (simp; omega))), (by repeat' (first | with_reducible assumption | (show (_ : List Value) = _; rfl) | with_reducible exact Blk.new _ _ rfl | (with_reducible refine Blk.new _ _ ?_; simp; done) | with_reducible apply Blk.set_eq | with_reducible apply Blk.other | with_reducible apply Blk.alloc | with_reducible apply Blk.drew | (simp; done) | (simp; omega)))⟩ ?_
        clear p6 q6 r6 s6 n6 CH CT
        generalize w5.heap.size = b12 at *
        generalize w6.heap.size = b13 at *
        rintro w7 ⟨p7, q7, r7, s7, t7⟩
        have q7c0 : w7.cell? ⟨b8, 0, none⟩ = some (.bool G.has) := q7.cell 0; have q7c1 : w7.cell? ⟨b8, 1, none⟩ = some (.int .u64 G.bits) := q7.cell 1; have q7z := q7.lt
        have r7c0 : w7.cell? ⟨b10, 0, none⟩ = some (.bool G.has) := r7.cell 0; have r7c1 : w7.cell? ⟨b10, 1, none⟩ = some (.int .u64 G.bits) := r7.cell 1; have r7z := r7.lt
        have s7c0 : w7.cell? ⟨b12, 0, none⟩ = some (.bool H.has) := s7.cell 0; have s7c1 : w7.cell? ⟨b12, 1, none⟩ = some (.int .u64 H.bits) := s7.cell 1; have s7z := s7.lt
        have t7c0 : w7.cell? ⟨b13, 0, none⟩ = some (.bool T.has) := t7.cell 0; have t7c1 : w7.cell? ⟨b13, 1, none⟩ = some (.int .u64 T.bits) := t7.cell 1; have t7z := t7.lt
        refine wp_region_below (by kernel_rfl) (by kernel_rfl) ?_
        iterate 19 (first | (refine lex_skip (by rfl) (fun _ _ _ _ h => h) ?_; simp only [Act.put, List.setIfInBounds_toArray, List.set_cons_zero, List.set_cons_succ]) | (refine lex_op (by rfl) ?_; apply Exists.intro; refine ⟨?_, ?_⟩; ((intro _ _ _ _ hT; obtain ⟨hc, hf⟩ := bcell hT; go_simp; first | exact rfl | (with_reducible exact call_below hT (CM1.out _)) | (with_reducible exact call_below hT (CM2.out _)))); simp only [Act.put, List.setIfInBounds_toArray, List.set_cons_zero, List.set_cons_succ]))
        refine lex_nil ?_
        intro w8 bel8
        have p8 : Below w.heap.size w w8 := (by repeat' (first | with_reducible exact Below.refl _ _ | with_reducible assumption | with_reducible refine bel_drew ?_ | with_reducible refine bel_alloc ?_ _ | with_reducible refine bel_set ?_ ?_ _ | with_reducible refine bel_call ?_ (by assumption) | (dsimp only; omega) | (simp; done) | (simp; omega)))
        have q8 := q7.below bel8
        clear bel8 q7 q7c0 q7c1 q7z r7 r7c0 r7c1 r7z s7 s7c0 s7c1 s7z t7 t7c0 t7c1 t7z CM1 CM2 p7
        by_cases hk1' : k = 1
        · have hG1 := HCo.out hk1'
          subst hk1'
          subst hG1
          have hl00 : (0 : Int) ≤ (len : Int) := by omega
          have q8c0 : w8.cell? ⟨b8, 0, none⟩ = some (.bool true) := q8.cell 0; have q8c1 : w8.cell? ⟨b8, 1, none⟩ = some (.int .u64 (len : Int)) := q8.cell 1; have q8z := q8.lt
          go_wp2_with fail
          go_ret
          exact ⟨rfl, p8⟩
        · have e1 : (k != 1) = true := by simpa using hk1'
          go_wp2_with fail
          go_ret
          exact ⟨rfl, p8⟩
end Go.Proofs.YtelofaceadlfmaaDoor
