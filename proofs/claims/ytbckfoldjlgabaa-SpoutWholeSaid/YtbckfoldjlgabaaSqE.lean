/- WALKS of law07: the document's Step, At of both, triples; SpoutTriples. WALK of SpoutSteps: triples batch by batch. -/
import Derived.Test.YtbckfoldjlgabaaSqC
namespace Go.Proofs.Ytbckfoldjlgabaa
open Go.RowKit
open Fl (nan key canon)
set_option maxRecDepth 100000 in
set_option maxHeartbeats 8000000 in
theorem rtstep_any {b : Int} {pv cv tv : Value} {pl cl to : List Int} (w : World) (hb : b ≤ 9223372036854775807) (hp : Ints w pv pl) (hc : Ints w cv cl) (ht : Ints w tv to) :
    Calls Try.prog 28 #[.agg #[.int .i64 b, pv, cv], tv] w fun e w' => ∃ r1 r2, e = .returned (.tuple #[.agg #[.int .i64 (stepT b pl cl to).1.1, r1, r2], .int .i64 (stepT b pl cl to).2]) ∧ OwnI w' w.heap.size r1 (stepT b pl cl to).1.2.1 ∧ OwnI w' w.heap.size r2 (stepT b pl cl to).1.2.2 ∧ Below w.heap.size w w' := by
  have CR := Lib.hid (fun W (hW : Below w.heap.size w W) => rright_any (b := b) W (hp.keep hW) (hc.keep hW))
  have CF := Lib.hid (fun W (hW : Below w.heap.size w W) => rforward_any W (hc.keep hW) (ht.keep hW))
  have C1 := Lib.hid (fun W (hW : Below w.heap.size w W) => copied_any W (hc.keep hW))
  have C2 := Lib.hid (fun W (hW : Below w.heap.size w W) => copied_any W (ht.keep hW))
  have HB := Lib.hid (fun h : rightT b pl cl = true => (rightT_len h).1)
  obtain ⟨pa, pn, pcap, _, _, _, rfl, -⟩ := hp
  obtain ⟨ca, cn, ccap, _, _, _, rfl, -⟩ := hc
  obtain ⟨ta, tn, tcap, _, _, _, rfl, -⟩ := ht
  unfold stepT
  cases hr : rightT b pl cl with
  | false =>
    rw [hr] at CR
    rw [if_neg (fun h => by cases h.1)]
    clear hr HB
    go_enter Try.func28, Try.ntmps28
    go_wp2_with fail
    refine (CR.out _ (by repeat' (first | with_reducible exact Below.refl _ _ | with_reducible assumption | with_reducible refine bel_drew ?_ | with_reducible refine bel_alloc ?_ _ | with_reducible refine bel_set ?_ ?_ _ | with_reducible refine bel_call ?_ (by assumption) | (dsimp only; omega) | (simp; done) | (simp; omega)))).mono ?_
    rintro e w1 ⟨rfl, b1⟩
    have p1 : Below w.heap.size w w1 := (by repeat' (first | with_reducible exact Below.refl _ _ | with_reducible assumption | with_reducible refine bel_drew ?_ | with_reducible refine bel_alloc ?_ _ | with_reducible refine bel_set ?_ ?_ _ | with_reducible refine bel_call ?_ (by assumption) | (dsimp only; omega) | (simp; done) | (simp; omega)))
    have B : Blk w1 (w.heap.size + 1) [.int .i64 0, .slice none 0 0, .slice none 0 0] 54 := Blk.below (by repeat' (first | with_reducible assumption | (show (_ : List Value) = _; rfl) | with_reducible exact Blk.new _ _ rfl | (with_reducible refine Blk.new _ _ ?_; simp; done) | with_reducible apply Blk.set_eq | with_reducible apply Blk.other | with_reducible apply Blk.alloc | with_reducible apply Blk.drew | (simp; done) | (simp; omega))) b1; have Bc0 : w1.cell? ⟨w.heap.size + 1, 0, none⟩ = some (.int .i64 0) := B.cell 0; have Bc1 : w1.cell? ⟨w.heap.size + 1, 1, none⟩ = some (.slice none 0 0) := B.cell 1; have Bc2 : w1.cell? ⟨w.heap.size + 1, 2, none⟩ = some (.slice none 0 0) := B.cell 2; have Bf0 : w1.frozen? ⟨w.heap.size + 1, 0, none⟩ = false := B.free 0; have Bf1 : w1.frozen? ⟨w.heap.size + 1, 1, none⟩ = false := B.free 1; have Bf2 : w1.frozen? ⟨w.heap.size + 1, 2, none⟩ = false := B.free 2; have Bz := B.lt
    clear b1
    go_wp2_with fail
    refine ret_cell_tmp [.int .i64 0, .slice none 0 0, .slice none 0 0] Try.results28 rfl (Try.isAgg54 _) (Try.sizeOf54 _) (t := 54) (by repeat' (first | with_reducible assumption | (show (_ : List Value) = _; rfl) | with_reducible exact Blk.new _ _ rfl | (with_reducible refine Blk.new _ _ ?_; simp; done) | with_reducible apply Blk.set_eq | with_reducible apply Blk.other | with_reducible apply Blk.alloc | with_reducible apply Blk.drew | (simp; done) | (simp; omega))) rfl ?_
    exact ⟨_, _, rfl, OwnI.nil _ _, OwnI.nil _ _, (by repeat' (first | with_reducible exact Below.refl _ _ | with_reducible assumption | with_reducible refine bel_drew ?_ | with_reducible refine bel_alloc ?_ _ | with_reducible refine bel_set ?_ ?_ _ | with_reducible refine bel_call ?_ (by assumption) | (dsimp only; omega) | (simp; done) | (simp; omega)))⟩
  | true =>
    rw [hr] at CR
    have hb0 := HB.out hr
    clear hr HB
    cases hf : fwd cl to with
    | false =>
      rw [hf] at CF
      rw [if_neg (fun h => by cases h.2)]
      clear hf
      go_enter Try.func28, Try.ntmps28
      go_wp2_with fail
      refine (CR.out _ (by repeat' (first | with_reducible exact Below.refl _ _ | with_reducible assumption | with_reducible refine bel_drew ?_ | with_reducible refine bel_alloc ?_ _ | with_reducible refine bel_set ?_ ?_ _ | with_reducible refine bel_call ?_ (by assumption) | (dsimp only; omega) | (simp; done) | (simp; omega)))).mono ?_
      rintro e w1 ⟨rfl, b1⟩
      have p1 : Below w.heap.size w w1 := (by repeat' (first | with_reducible exact Below.refl _ _ | with_reducible assumption | with_reducible refine bel_drew ?_ | with_reducible refine bel_alloc ?_ _ | with_reducible refine bel_set ?_ ?_ _ | with_reducible refine bel_call ?_ (by assumption) | (dsimp only; omega) | (simp; done) | (simp; omega)))
      have A : Blk w1 (w.heap.size) [.int .i64 b, .slice pa pn pcap, .slice ca cn ccap] 54 := Blk.below (by repeat' (first | with_reducible assumption | (show (_ : List Value) = _; rfl) | with_reducible exact Blk.new _ _ rfl | (with_reducible refine Blk.new _ _ ?_; simp; done) | with_reducible apply Blk.set_eq | with_reducible apply Blk.other | with_reducible apply Blk.alloc | with_reducible apply Blk.drew | (simp; done) | (simp; omega))) b1; have Ac0 : w1.cell? ⟨w.heap.size, 0, none⟩ = some (.int .i64 b) := A.cell 0; have Ac1 : w1.cell? ⟨w.heap.size, 1, none⟩ = some (.slice pa pn pcap) := A.cell 1; have Ac2 : w1.cell? ⟨w.heap.size, 2, none⟩ = some (.slice ca cn ccap) := A.cell 2; have Af0 : w1.frozen? ⟨w.heap.size, 0, none⟩ = false := A.free 0; have Af1 : w1.frozen? ⟨w.heap.size, 1, none⟩ = false := A.free 1; have Af2 : w1.frozen? ⟨w.heap.size, 2, none⟩ = false := A.free 2; have Az := A.lt
      have B : Blk w1 (w.heap.size + 1) [.int .i64 0, .slice none 0 0, .slice none 0 0] 54 := Blk.below (by repeat' (first | with_reducible assumption | (show (_ : List Value) = _; rfl) | with_reducible exact Blk.new _ _ rfl | (with_reducible refine Blk.new _ _ ?_; simp; done) | with_reducible apply Blk.set_eq | with_reducible apply Blk.other | with_reducible apply Blk.alloc | with_reducible apply Blk.drew | (simp; done) | (simp; omega))) b1
      clear b1
      go_wp2_with fail
      refine (CF.out _ p1).mono ?_
      rintro e w2 ⟨rfl, b2⟩
      have p2 : Below w.heap.size w w2 := p1.trans (b2.mono p1.size)
      have D : Blk w2 (w.heap.size + 1) [.int .i64 0, .slice none 0 0, .slice none 0 0] 54 := B.below b2; have Dc0 : w2.cell? ⟨w.heap.size + 1, 0, none⟩ = some (.int .i64 0) := D.cell 0; have Dc1 : w2.cell? ⟨w.heap.size + 1, 1, none⟩ = some (.slice none 0 0) := D.cell 1; have Dc2 : w2.cell? ⟨w.heap.size + 1, 2, none⟩ = some (.slice none 0 0) := D.cell 2; have Df0 : w2.frozen? ⟨w.heap.size + 1, 0, none⟩ = false := D.free 0; have Df1 : w2.frozen? ⟨w.heap.size + 1, 1, none⟩ = false := D.free 1; have Df2 : w2.frozen? ⟨w.heap.size + 1, 2, none⟩ = false := D.free 2; have Dz := D.lt
      clear b2
      go_wp2_with fail
      refine ret_cell_tmp [.int .i64 0, .slice none 0 0, .slice none 0 0] Try.results28 rfl (Try.isAgg54 _) (Try.sizeOf54 _) (t := 54) (by repeat' (first | with_reducible assumption | (show (_ : List Value) = _; rfl) | with_reducible exact Blk.new _ _ rfl | (with_reducible refine Blk.new _ _ ?_; simp; done) | with_reducible apply Blk.set_eq | with_reducible apply Blk.other | with_reducible apply Blk.alloc | with_reducible apply Blk.drew | (simp; done) | (simp; omega))) rfl ?_
      exact ⟨_, _, rfl, OwnI.nil _ _, OwnI.nil _ _, (by repeat' (first | with_reducible exact Below.refl _ _ | with_reducible assumption | with_reducible refine bel_drew ?_ | with_reducible refine bel_alloc ?_ _ | with_reducible refine bel_set ?_ ?_ _ | with_reducible refine bel_call ?_ (by assumption) | (dsimp only; omega) | (simp; done) | (simp; omega)))⟩
    | true =>
      rw [hf] at CF
      rw [if_pos ⟨rfl, rfl⟩]
      clear hf
      by_cases hm : 1099511627776 ≤ b
      · rw [if_pos hm]
        go_enter Try.func28, Try.ntmps28
        go_wp2_with fail
        refine (CR.out _ (by repeat' (first | with_reducible exact Below.refl _ _ | with_reducible assumption | with_reducible refine bel_drew ?_ | with_reducible refine bel_alloc ?_ _ | with_reducible refine bel_set ?_ ?_ _ | with_reducible refine bel_call ?_ (by assumption) | (dsimp only; omega) | (simp; done) | (simp; omega)))).mono ?_
        rintro e w1 ⟨rfl, b1⟩
        have p1 : Below w.heap.size w w1 := (by repeat' (first | with_reducible exact Below.refl _ _ | with_reducible assumption | with_reducible refine bel_drew ?_ | with_reducible refine bel_alloc ?_ _ | with_reducible refine bel_set ?_ ?_ _ | with_reducible refine bel_call ?_ (by assumption) | (dsimp only; omega) | (simp; done) | (simp; omega)))
        have A : Blk w1 (w.heap.size) [.int .i64 b, .slice pa pn pcap, .slice ca cn ccap] 54 := Blk.below (by repeat' (first | with_reducible assumption | (show (_ : List Value) = _; rfl) | with_reducible exact Blk.new _ _ rfl | (with_reducible refine Blk.new _ _ ?_; simp; done) | with_reducible apply Blk.set_eq | with_reducible apply Blk.other | with_reducible apply Blk.alloc | with_reducible apply Blk.drew | (simp; done) | (simp; omega))) b1; have Ac0 : w1.cell? ⟨w.heap.size, 0, none⟩ = some (.int .i64 b) := A.cell 0; have Ac1 : w1.cell? ⟨w.heap.size, 1, none⟩ = some (.slice pa pn pcap) := A.cell 1; have Ac2 : w1.cell? ⟨w.heap.size, 2, none⟩ = some (.slice ca cn ccap) := A.cell 2; have Af0 : w1.frozen? ⟨w.heap.size, 0, none⟩ = false := A.free 0; have Af1 : w1.frozen? ⟨w.heap.size, 1, none⟩ = false := A.free 1; have Af2 : w1.frozen? ⟨w.heap.size, 2, none⟩ = false := A.free 2; have Az := A.lt
        have B : Blk w1 (w.heap.size + 1) [.int .i64 0, .slice none 0 0, .slice none 0 0] 54 := Blk.below (by repeat' (first | with_reducible assumption | (show (_ : List Value) = _; rfl) | with_reducible exact Blk.new _ _ rfl | (with_reducible refine Blk.new _ _ ?_; simp; done) | with_reducible apply Blk.set_eq | with_reducible apply Blk.other | with_reducible apply Blk.alloc | with_reducible apply Blk.drew | (simp; done) | (simp; omega))) b1
        clear b1
        go_wp2_with fail
        refine (CF.out _ p1).mono ?_
        rintro e w2 ⟨rfl, b2⟩
        have p2 : Below w.heap.size w w2 := p1.trans (b2.mono p1.size)
        have E : Blk w2 (w.heap.size) [.int .i64 b, .slice pa pn pcap, .slice ca cn ccap] 54 := A.below b2; have Ec0 : w2.cell? ⟨w.heap.size, 0, none⟩ = some (.int .i64 b) := E.cell 0; have Ec1 : w2.cell? ⟨w.heap.size, 1, none⟩ = some (.slice pa pn pcap) := E.cell 1; have Ec2 : w2.cell? ⟨w.heap.size, 2, none⟩ = some (.slice ca cn ccap) := E.cell 2; have Ef0 : w2.frozen? ⟨w.heap.size, 0, none⟩ = false := E.free 0; have Ef1 : w2.frozen? ⟨w.heap.size, 1, none⟩ = false := E.free 1; have Ef2 : w2.frozen? ⟨w.heap.size, 2, none⟩ = false := E.free 2; have Ez := E.lt
        have D : Blk w2 (w.heap.size + 1) [.int .i64 0, .slice none 0 0, .slice none 0 0] 54 := B.below b2; have Dc0 : w2.cell? ⟨w.heap.size + 1, 0, none⟩ = some (.int .i64 0) := D.cell 0; have Dc1 : w2.cell? ⟨w.heap.size + 1, 1, none⟩ = some (.slice none 0 0) := D.cell 1; have Dc2 : w2.cell? ⟨w.heap.size + 1, 2, none⟩ = some (.slice none 0 0) := D.cell 2; have Df0 : w2.frozen? ⟨w.heap.size + 1, 0, none⟩ = false := D.free 0; have Df1 : w2.frozen? ⟨w.heap.size + 1, 1, none⟩ = false := D.free 1; have Df2 : w2.frozen? ⟨w.heap.size + 1, 2, none⟩ = false := D.free 2; have Dz := D.lt
        clear b2 A B Ac0 Ac1 Ac2
        go_wp2_with fail
        refine ret_cell_tmp [.int .i64 0, .slice none 0 0, .slice none 0 0] Try.results28 rfl (Try.isAgg54 _) (Try.sizeOf54 _) (t := 54) (by repeat' (first | with_reducible assumption | (show (_ : List Value) = _; rfl) | with_reducible exact Blk.new _ _ rfl | (with_reducible refine Blk.new _ _ ?_; simp; done) | with_reducible apply Blk.set_eq | with_reducible apply Blk.other | with_reducible apply Blk.alloc | with_reducible apply Blk.drew | (simp; done) | (simp; omega))) rfl ?_
        exact ⟨_, _, rfl, OwnI.nil _ _, OwnI.nil _ _, (by repeat' (first | with_reducible exact Below.refl _ _ | with_reducible assumption | with_reducible refine bel_drew ?_ | with_reducible refine bel_alloc ?_ _ | with_reducible refine bel_set ?_ ?_ _ | with_reducible refine bel_call ?_ (by assumption) | (dsimp only; omega) | (simp; done) | (simp; omega)))⟩
      · rw [if_neg hm]
        have hw1 : IntKind.i64.wrap (b + 1) = b + 1 := Go.IntWalk.i64_in _ (by omega)
        go_enter Try.func28, Try.ntmps28
        go_wp2_with fail
        refine (CR.out _ (by repeat' (first | with_reducible exact Below.refl _ _ | with_reducible assumption | with_reducible refine bel_drew ?_ | with_reducible refine bel_alloc ?_ _ | with_reducible refine bel_set ?_ ?_ _ | with_reducible refine bel_call ?_ (by assumption) | (dsimp only; omega) | (simp; done) | (simp; omega)))).mono ?_
        rintro e w1 ⟨rfl, b1⟩
        have p1 : Below w.heap.size w w1 := (by repeat' (first | with_reducible exact Below.refl _ _ | with_reducible assumption | with_reducible refine bel_drew ?_ | with_reducible refine bel_alloc ?_ _ | with_reducible refine bel_set ?_ ?_ _ | with_reducible refine bel_call ?_ (by assumption) | (dsimp only; omega) | (simp; done) | (simp; omega)))
        have A : Blk w1 (w.heap.size) [.int .i64 b, .slice pa pn pcap, .slice ca cn ccap] 54 := Blk.below (by repeat' (first | with_reducible assumption | (show (_ : List Value) = _; rfl) | with_reducible exact Blk.new _ _ rfl | (with_reducible refine Blk.new _ _ ?_; simp; done) | with_reducible apply Blk.set_eq | with_reducible apply Blk.other | with_reducible apply Blk.alloc | with_reducible apply Blk.drew | (simp; done) | (simp; omega))) b1; have Ac0 : w1.cell? ⟨w.heap.size, 0, none⟩ = some (.int .i64 b) := A.cell 0; have Ac1 : w1.cell? ⟨w.heap.size, 1, none⟩ = some (.slice pa pn pcap) := A.cell 1; have Ac2 : w1.cell? ⟨w.heap.size, 2, none⟩ = some (.slice ca cn ccap) := A.cell 2; have Af0 : w1.frozen? ⟨w.heap.size, 0, none⟩ = false := A.free 0; have Af1 : w1.frozen? ⟨w.heap.size, 1, none⟩ = false := A.free 1; have Af2 : w1.frozen? ⟨w.heap.size, 2, none⟩ = false := A.free 2; have Az := A.lt
        have B : Blk w1 (w.heap.size + 1) [.int .i64 0, .slice none 0 0, .slice none 0 0] 54 := Blk.below (by repeat' (first | with_reducible assumption | (show (_ : List Value) = _; rfl) | with_reducible exact Blk.new _ _ rfl | (with_reducible refine Blk.new _ _ ?_; simp; done) | with_reducible apply Blk.set_eq | with_reducible apply Blk.other | with_reducible apply Blk.alloc | with_reducible apply Blk.drew | (simp; done) | (simp; omega))) b1
        clear b1
        go_wp2_with fail
        refine (CF.out _ p1).mono ?_
        rintro e w2 ⟨rfl, b2⟩
        have p2 : Below w.heap.size w w2 := p1.trans (b2.mono p1.size)
        have E : Blk w2 (w.heap.size) [.int .i64 b, .slice pa pn pcap, .slice ca cn ccap] 54 := A.below b2; have Ec0 : w2.cell? ⟨w.heap.size, 0, none⟩ = some (.int .i64 b) := E.cell 0; have Ec1 : w2.cell? ⟨w.heap.size, 1, none⟩ = some (.slice pa pn pcap) := E.cell 1; have Ec2 : w2.cell? ⟨w.heap.size, 2, none⟩ = some (.slice ca cn ccap) := E.cell 2; have Ef0 : w2.frozen? ⟨w.heap.size, 0, none⟩ = false := E.free 0; have Ef1 : w2.frozen? ⟨w.heap.size, 1, none⟩ = false := E.free 1; have Ef2 : w2.frozen? ⟨w.heap.size, 2, none⟩ = false := E.free 2; have Ez := E.lt
        have D := B.below b2
        clear b2 A B Ac0 Ac1 Ac2
        go_wp2_with fail
        refine RV.wp_region_ghost (StC w w2 (StS w.heap.size 5 7 8 (.int .i64 (b + 1)) cl to) (TrAt w.heap.size (w.heap.size + 1) (.int .i64 (b + 1)) cl to) 9) (by kernel_rfl) (by kernel_rfl) StC.loc (.begin _ p2 (by decide) (fun i u w' hi => ⟨fun h => absurd hi (by subst h; decide), fun h => absurd hi (by subst h; decide), fun h => absurd hi (by subst h; decide)⟩)) ?_
        refine RV.lexg_val (fun _ => by rfl) ?_; apply Exists.intro; refine ⟨?_, ?_⟩; ((intro g L w' hU hT; have hT' := hT.upd (i := 0) (by decide) (fun _ _ => ⟨fun h => absurd h (by decide), fun h => absurd h (by decide), fun h => absurd h (by decide)⟩); clear hT hU; go_simp; exact rfl)); simp only [Act.put, List.setIfInBounds_toArray, List.set_cons_zero, List.set_cons_succ]
        refine RV.lexg_val (fun _ => by rfl) ?_; apply Exists.intro; refine ⟨?_, ?_⟩; ((intro g L w' hU hT; have hT' := hT.upd (i := 1) (by decide) (fun _ _ => ⟨fun h => absurd h (by decide), fun h => absurd h (by decide), fun h => absurd h (by decide)⟩); have hs2 := hU.closed.no (j := 2) (i := 1) rfl (by kernel_rfl) hU.not; have hs8 := hU.closed.no (j := 8) (i := 2) rfl (by kernel_rfl) hs2; have hs9 := hU.closed.no (j := 9) (i := 8) rfl (by kernel_rfl) hs8; obtain ⟨hc, hf⟩ := bcell (hT.ext hs9); clear hT hU hs2 hs8 hs9; go_simp; exact rfl)); simp only [Act.put, List.setIfInBounds_toArray, List.set_cons_zero, List.set_cons_succ]
        refine RV.lexg_val (fun _ => by rfl) ?_; apply Exists.intro; refine ⟨?_, ?_⟩; ((intro g L w' hU hT; have hT' := hT.upd (i := 2) (by decide) (fun _ _ => ⟨fun h => absurd h (by decide), fun h => absurd h (by decide), fun h => absurd h (by decide)⟩); clear hT hU; go_simp; exact rfl)); simp only [Act.put, List.setIfInBounds_toArray, List.set_cons_zero, List.set_cons_succ]
        refine RV.lexg_val (fun _ => by rfl) ?_; apply Exists.intro; refine ⟨?_, ?_⟩; ((intro g L w' hU hT; have hT' := hT.upd (i := 3) (by decide) (fun _ _ => ⟨fun h => absurd h (by decide), fun h => absurd h (by decide), fun h => absurd h (by decide)⟩); clear hT hU; go_simp; exact rfl)); simp only [Act.put, List.setIfInBounds_toArray, List.set_cons_zero, List.set_cons_succ]
        refine RV.lexg_val (fun _ => by rfl) ?_; apply Exists.intro; refine ⟨?_, ?_⟩; ((intro g L w' hU hT; have hT' := hT.upd (i := 4) (by decide) (fun _ _ => ⟨fun h => absurd h (by decide), fun h => absurd h (by decide), fun h => absurd h (by decide)⟩); have hs5 := hU.closed.no (j := 5) (i := 4) rfl (by kernel_rfl) hU.not; have hs8 := hU.closed.no (j := 8) (i := 5) rfl (by kernel_rfl) hs5; have hs9 := hU.closed.no (j := 9) (i := 8) rfl (by kernel_rfl) hs8; obtain ⟨hc, hf⟩ := bcell (hT.ext hs9); clear hT hU hs5 hs8 hs9; go_simp; exact rfl)); simp only [Act.put, List.setIfInBounds_toArray, List.set_cons_zero, List.set_cons_succ]
        refine RV.lexg_new (fun _ => by rfl) ?_ ?_; (next => (intro g L w' hU hT; have p' := hT.bel; have hs8 := hU.closed.no (j := 8) (i := 5) rfl (by kernel_rfl) hU.not; have hs9 := hU.closed.no (j := 9) (i := 8) rfl (by kernel_rfl) hs8; refine lx_call (f := 49) (args := #[.slice ca cn ccap]) (w' := w') (by go_simp) ((C1.out _ hT.bel).mono ?_); rintro e w'' ⟨u, rfl, hv, hb⟩; exact ⟨u, rfl, hT.new (by decide) hs9 hb (StS.keep _ _ _ _ _ _ _) ⟨fun _ => hv.base p'.size, fun h => absurd h (by decide), fun h => absurd h (by decide)⟩⟩)); simp only [Act.put, List.setIfInBounds_toArray, List.set_cons_zero, List.set_cons_succ]
        refine RV.lexg_val (fun _ => by rfl) ?_; apply Exists.intro; refine ⟨?_, ?_⟩; ((intro g L w' hU hT; have hT' := hT.upd (i := 6) (by decide) (fun _ _ => ⟨fun h => absurd h (by decide), fun h => absurd h (by decide), fun h => absurd h (by decide)⟩); clear hT hU; go_simp; exact rfl)); simp only [Act.put, List.setIfInBounds_toArray, List.set_cons_zero, List.set_cons_succ]
        refine RV.lexg_new (fun _ => by rfl) ?_ ?_; (next => (intro g L w' hU hT; have p' := hT.bel; have hs8 := hU.closed.no (j := 8) (i := 7) rfl (by kernel_rfl) hU.not; have hs9 := hU.closed.no (j := 9) (i := 8) rfl (by kernel_rfl) hs8; refine lx_call (f := 49) (args := #[.slice ta tn tcap]) (w' := w') (by go_simp) ((C2.out _ hT.bel).mono ?_); rintro e w'' ⟨u, rfl, hv, hb⟩; exact ⟨u, rfl, hT.new (by decide) hs9 hb (StS.keep _ _ _ _ _ _ _) ⟨fun h => absurd h (by decide), fun _ => hv.base p'.size, fun h => absurd h (by decide)⟩⟩)); simp only [Act.put, List.setIfInBounds_toArray, List.set_cons_zero, List.set_cons_succ]
        refine RV.lexg_new (fun _ => by rfl) ?_ ?_
        · intro g L w' hU hT
          have h9 := hU.closed.no (j := 9) (i := 8) rfl (by kernel_rfl) hU.not
          have o1 := (hT.at_ h9 5 (hU.yes rfl (by kernel_rfl))).1 rfl
          have o2 := (hT.at_ h9 7 (hU.yes rfl (by kernel_rfl))).2.1 rfl
          refine lx_ok (u := .agg #[.int .i64 (b + 1), g 5, g 7]) (w' := w') ?_ (hT.new (by decide) h9 (Below.refl _ _) (StS.keep _ _ _ _ _ _ _) ⟨fun h => absurd h (by decide), fun h => absurd h (by decide), fun _ => ⟨_, _, rfl, o1, o2⟩⟩)
          obtain ⟨a1, k1, m1, e1⟩ := o1.shape
          obtain ⟨a2, k2, m2, e2⟩ := o2.shape
          rw [e1, e2]
          clear hT hU o1 o2 e1 e2
          go_simp
        simp only [Act.put, List.setIfInBounds_toArray, List.set_cons_zero, List.set_cons_succ]
        refine RV.lexg_op (fun _ => by rfl) ?_
        refine ⟨fun _ => undef, ?_, RV.known_const _ _, ?_⟩
        · intro g L w' hU hT
          obtain ⟨u1, u2, e8, o1, o2⟩ := (hT.at_ hU.not 8 (hU.yes rfl (by kernel_rfl))).2.2 rfl
          obtain ⟨a1, k1, m1, rfl⟩ := o1.shape
          obtain ⟨a2, k2, m2, rfl⟩ := o2.shape
          have hB := D.below (hT.ext hU.not)
          have hT' : StC w w2 (StS w.heap.size 5 7 8 (.int .i64 (b + 1)) cl to) (TrAt w.heap.size (w.heap.size + 1) (.int .i64 (b + 1)) cl to) 9 g (upd L 9) (setAll w' (w.heap.size + 1) 0 [.int .i64 (b + 1), .slice a1 k1 m1, .slice a2 k2 m2]) := StC.store (setAll_below (by omega) _ _ hT.bel) (trAt_store hB rfl o1 o2)
          have zc0 := hB.cell 0; have zf0 := hB.free 0; have zc1 := hB.cell 1; have zf1 := hB.free 1; have zc2 := hB.cell 2; have zf2 := hB.free 2
          simp only [List.getElem?_cons_zero, List.getElem?_cons_succ] at zc0 zc1 zc2
          clear hT hU o1 o2 hB
          rw [e8]
          go_simp
          first | exact hT' | exact ⟨hT', rfl⟩
        simp only [Act.put]
        refine RV.lexg_val (fun _ => by rfl) ?_; apply Exists.intro; refine ⟨?_, ?_⟩; ((intro g L w' hU hT; have hT' := hT.upd (i := 10) (by decide) (fun _ _ => ⟨fun h => absurd h (by decide), fun h => absurd h (by decide), fun h => absurd h (by decide)⟩); clear hT hU; go_simp; exact rfl)); simp only [Act.put, List.setIfInBounds_toArray, List.set_cons_zero, List.set_cons_succ]
        refine RV.lexg_nil ?_
        intro g w6 hT
        have p6 := hT.bel
        obtain ⟨r1, r2, hB, o1, o2⟩ := hT.fin rfl
        clear hT
        go_wp2_with fail
        refine ret_cell_tmp [.int .i64 (b + 1), r1, r2] Try.results28 rfl (Try.isAgg54 _) (Try.sizeOf54 _) (t := 54) ?_ rfl ?_; next => (exact hB)
        exact ⟨_, _, rfl, o1, o2, p6⟩
set_option maxRecDepth 100000 in
set_option maxHeartbeats 8000000 in
theorem sat_any {b m : Int} {pv cv : Value} {pl cl : List Int} (w : World) (hb : b ≤ 9223372036854775807) (hp : Ints w pv pl) (hc : Ints w cv cl) :
    Calls Try.prog 30 #[.agg #[.int .i64 b, pv, cv], .int .i64 m] w fun e w' => ∃ r, e = .returned (.tuple #[r, .bool (atT b pl cl m).2]) ∧ OwnI w' w.heap.size r (atT b pl cl m).1 ∧ Below w.heap.size w w' := by
  have C1 := Lib.hid (fun W (hW : Below w.heap.size w W) => clone_ints W (hp.keep hW))
  have C2 := Lib.hid (fun W (hW : Below w.heap.size w W) => clone_ints W (hc.keep hW))
  obtain ⟨pa, pn, pcap, _, _, _, rfl, -⟩ := hp
  obtain ⟨ca, cn, ccap, _, _, _, rfl, -⟩ := hc
  unfold atT
  by_cases hm : m = b
  · subst hm
    rw [if_pos rfl]
    have hE : (m == m) = true := by simp
    go_enter Try.func30, Try.ntmps30
    go_wp2_with fail
    refine (C2.out _ (by repeat' (first | with_reducible exact Below.refl _ _ | with_reducible assumption | with_reducible refine bel_drew ?_ | with_reducible refine bel_alloc ?_ _ | with_reducible refine bel_set ?_ ?_ _ | with_reducible refine bel_call ?_ (by assumption) | (dsimp only; omega) | (simp; done) | (simp; omega)))).mono ?_
    rintro e w1 ⟨r, rfl, o1, b1⟩
    have p1 : Below w.heap.size w w1 := (by repeat' (first | with_reducible exact Below.refl _ _ | with_reducible assumption | with_reducible refine bel_drew ?_ | with_reducible refine bel_alloc ?_ _ | with_reducible refine bel_set ?_ ?_ _ | with_reducible refine bel_call ?_ (by assumption) | (dsimp only; omega) | (simp; done) | (simp; omega)))
    have O1 := Lib.hid (o1.base (bel_alloc1 w _).size)
    clear b1 o1
    go_wp2_with fail
    go_ret2
    exact ⟨_, rfl, O1.out, p1⟩
  · rw [if_neg hm]
    have hE : (m == b) = false := by simpa using hm
    by_cases h1 : 1 ≤ b
    · have hw1 : IntKind.i64.wrap (b - 1) = b - 1 := Go.IntWalk.i64_in _ (by omega)
      by_cases h2 : m = b - 1
      · rw [if_pos ⟨h1, h2⟩]
        have hE2 : (m == b - 1) = true := by simpa using h2
        clear h2 hm
        go_enter Try.func30, Try.ntmps30
        go_wp2_with fail
        refine (C1.out _ (by repeat' (first | with_reducible exact Below.refl _ _ | with_reducible assumption | with_reducible refine bel_drew ?_ | with_reducible refine bel_alloc ?_ _ | with_reducible refine bel_set ?_ ?_ _ | with_reducible refine bel_call ?_ (by assumption) | (dsimp only; omega) | (simp; done) | (simp; omega)))).mono ?_
        rintro e w1 ⟨r, rfl, o1, b1⟩
        have p1 : Below w.heap.size w w1 := (by repeat' (first | with_reducible exact Below.refl _ _ | with_reducible assumption | with_reducible refine bel_drew ?_ | with_reducible refine bel_alloc ?_ _ | with_reducible refine bel_set ?_ ?_ _ | with_reducible refine bel_call ?_ (by assumption) | (dsimp only; omega) | (simp; done) | (simp; omega)))
        have O1 := Lib.hid (o1.base (bel_alloc1 w _).size)
        clear b1 o1
        go_wp2_with fail
        go_ret2
        exact ⟨_, rfl, O1.out, p1⟩
      · rw [if_neg (fun h => h2 h.2)]
        have hE2 : (m == b - 1) = false := by simpa using h2
        clear h2 hm
        go_enter Try.func30, Try.ntmps30
        go_wp2_with fail
        go_ret2
        exact ⟨_, rfl, OwnI.nil _ _, (by repeat' (first | with_reducible exact Below.refl _ _ | with_reducible assumption | with_reducible refine bel_drew ?_ | with_reducible refine bel_alloc ?_ _ | with_reducible refine bel_set ?_ ?_ _ | with_reducible refine bel_call ?_ (by assumption) | (dsimp only; omega) | (simp; done) | (simp; omega)))⟩
    · rw [if_neg (fun h => h1 h.1)]
      clear hm
      go_enter Try.func30, Try.ntmps30
      go_wp2_with fail
      go_ret2
      exact ⟨_, rfl, OwnI.nil _ _, (by repeat' (first | with_reducible exact Below.refl _ _ | with_reducible assumption | with_reducible refine bel_drew ?_ | with_reducible refine bel_alloc ?_ _ | with_reducible refine bel_set ?_ ?_ _ | with_reducible refine bel_call ?_ (by assumption) | (dsimp only; omega) | (simp; done) | (simp; omega)))⟩
set_option maxRecDepth 100000 in
set_option maxHeartbeats 8000000 in
theorem rat_any {b m : Int} {pv cv : Value} {pl cl : List Int} (w : World) (hb : b ≤ 9223372036854775807) (hp : Ints w pv pl) (hc : Ints w cv cl) :
    Calls Try.prog 31 #[.agg #[.int .i64 b, pv, cv], .int .i64 m] w fun e w' => ∃ r, e = .returned (.tuple #[r, .bool (atT b pl cl m).2]) ∧ OwnI w' w.heap.size r (atT b pl cl m).1 ∧ Below w.heap.size w w' := by
  have C1 := Lib.hid (fun W (hW : Below w.heap.size w W) => copied_any W (hp.keep hW))
  have C2 := Lib.hid (fun W (hW : Below w.heap.size w W) => copied_any W (hc.keep hW))
  obtain ⟨pa, pn, pcap, _, _, _, rfl, -⟩ := hp
  obtain ⟨ca, cn, ccap, _, _, _, rfl, -⟩ := hc
  unfold atT
  by_cases hm : m = b
  · subst hm
    rw [if_pos rfl]
    have hE : (m == m) = true := by simp
    go_enter Try.func31, Try.ntmps31
    go_wp2_with fail
    refine (C2.out _ (by repeat' (first | with_reducible exact Below.refl _ _ | with_reducible assumption | with_reducible refine bel_drew ?_ | with_reducible refine bel_alloc ?_ _ | with_reducible refine bel_set ?_ ?_ _ | with_reducible refine bel_call ?_ (by assumption) | (dsimp only; omega) | (simp; done) | (simp; omega)))).mono ?_
    rintro e w1 ⟨r, rfl, o1, b1⟩
    have p1 : Below w.heap.size w w1 := (by repeat' (first | with_reducible exact Below.refl _ _ | with_reducible assumption | with_reducible refine bel_drew ?_ | with_reducible refine bel_alloc ?_ _ | with_reducible refine bel_set ?_ ?_ _ | with_reducible refine bel_call ?_ (by assumption) | (dsimp only; omega) | (simp; done) | (simp; omega)))
    have O1 := Lib.hid (o1.base (bel_alloc1 w _).size)
    clear b1 o1
    go_wp2_with fail
    go_ret2
    exact ⟨_, rfl, O1.out, p1⟩
  · rw [if_neg hm]
    have hE : (m == b) = false := by simpa using hm
    by_cases h0 : 0 ≤ m
    · by_cases h1 : 1 ≤ b
      · have hw1 : IntKind.i64.wrap (b - 1) = b - 1 := Go.IntWalk.i64_in _ (by omega)
        by_cases h2 : m = b - 1
        · rw [if_pos ⟨h1, h2⟩]
          have hE2 : (m == b - 1) = true := by simpa using h2
          clear h2 hm
          go_enter Try.func31, Try.ntmps31
          go_wp2_with fail
          refine (C1.out _ (by repeat' (first | with_reducible exact Below.refl _ _ | with_reducible assumption | with_reducible refine bel_drew ?_ | with_reducible refine bel_alloc ?_ _ | with_reducible refine bel_set ?_ ?_ _ | with_reducible refine bel_call ?_ (by assumption) | (dsimp only; omega) | (simp; done) | (simp; omega)))).mono ?_
          rintro e w1 ⟨r, rfl, o1, b1⟩
          have p1 : Below w.heap.size w w1 := (by repeat' (first | with_reducible exact Below.refl _ _ | with_reducible assumption | with_reducible refine bel_drew ?_ | with_reducible refine bel_alloc ?_ _ | with_reducible refine bel_set ?_ ?_ _ | with_reducible refine bel_call ?_ (by assumption) | (dsimp only; omega) | (simp; done) | (simp; omega)))
          have O1 := Lib.hid (o1.base (bel_alloc1 w _).size)
          clear b1 o1
          go_wp2_with fail
          go_ret2
          exact ⟨_, rfl, O1.out, p1⟩
        · rw [if_neg (fun h => h2 h.2)]
          have hE2 : (m == b - 1) = false := by simpa using h2
          clear h2 hm
          go_enter Try.func31, Try.ntmps31
          go_wp2_with fail
          go_ret2
          exact ⟨_, rfl, OwnI.nil _ _, (by repeat' (first | with_reducible exact Below.refl _ _ | with_reducible assumption | with_reducible refine bel_drew ?_ | with_reducible refine bel_alloc ?_ _ | with_reducible refine bel_set ?_ ?_ _ | with_reducible refine bel_call ?_ (by assumption) | (dsimp only; omega) | (simp; done) | (simp; omega)))⟩
      · rw [if_neg (fun h => h1 h.1)]
        clear hm
        go_enter Try.func31, Try.ntmps31
        go_wp2_with fail
        go_ret2
        exact ⟨_, rfl, OwnI.nil _ _, (by repeat' (first | with_reducible exact Below.refl _ _ | with_reducible assumption | with_reducible refine bel_drew ?_ | with_reducible refine bel_alloc ?_ _ | with_reducible refine bel_set ?_ ?_ _ | with_reducible refine bel_call ?_ (by assumption) | (dsimp only; omega) | (simp; done) | (simp; omega)))⟩
    · rw [if_neg (fun h => h0 (by omega))]
      clear hm
      go_enter Try.func31, Try.ntmps31
      go_wp2_with fail
      go_ret2
      exact ⟨_, rfl, OwnI.nil _ _, (by repeat' (first | with_reducible exact Below.refl _ _ | with_reducible assumption | with_reducible refine bel_drew ?_ | with_reducible refine bel_alloc ?_ _ | with_reducible refine bel_set ?_ ?_ _ | with_reducible refine bel_call ?_ (by assumption) | (dsimp only; omega) | (simp; done) | (simp; omega)))⟩
set_option maxRecDepth 100000 in
set_option maxHeartbeats 8000000 in
theorem triples_true {b : Int} {pv cv pv' cv' : Value} {pl cl : List Int} (w : World) (hp : Ints w pv pl) (hc : Ints w cv cl) (hp' : Ints w pv' pl) (hc' : Ints w cv' cl) :
    Calls Try.prog 29 #[.agg #[.int .i64 b, pv, cv], .agg #[.int .i64 b, pv', cv']] w fun e w' => e = .returned (.bool true) ∧ Below w.heap.size w w' := by
  have C1 := Lib.hid (fun W (hW : Below w.heap.size w W) => ints_true W (hp.keep hW) (hp'.keep hW))
  have C2 := Lib.hid (fun W (hW : Below w.heap.size w W) => ints_true W (hc.keep hW) (hc'.keep hW))
  obtain ⟨pa, pn, pcap, _, _, _, rfl, -⟩ := hp
  obtain ⟨ca, cn, ccap, _, _, _, rfl, -⟩ := hc
  obtain ⟨pa', pn', pcap', _, _, _, rfl, -⟩ := hp'
  obtain ⟨ca', cn', ccap', _, _, _, rfl, -⟩ := hc'
  have hE : (b == b) = true := by simp
  go_enter Try.func29, Try.ntmps29
  go_wp2_with fail
  refine (C1.out _ (by repeat' (first | with_reducible exact Below.refl _ _ | with_reducible assumption | with_reducible refine bel_drew ?_ | with_reducible refine bel_alloc ?_ _ | with_reducible refine bel_set ?_ ?_ _ | with_reducible refine bel_call ?_ (by assumption) | (dsimp only; omega) | (simp; done) | (simp; omega)))).mono ?_
  rintro e w1 ⟨rfl, b1⟩
  have p1 : Below w.heap.size w w1 := (by repeat' (first | with_reducible exact Below.refl _ _ | with_reducible assumption | with_reducible refine bel_drew ?_ | with_reducible refine bel_alloc ?_ _ | with_reducible refine bel_set ?_ ?_ _ | with_reducible refine bel_call ?_ (by assumption) | (dsimp only; omega) | (simp; done) | (simp; omega)))
  have A : Blk w1 (w.heap.size) [.int .i64 b, .slice pa pn pcap, .slice ca cn ccap] 54 := Blk.below (by repeat' (first | with_reducible assumption | (show (_ : List Value) = _; rfl) | with_reducible exact Blk.new _ _ rfl | (with_reducible refine Blk.new _ _ ?_; simp; done) | with_reducible apply Blk.set_eq | with_reducible apply Blk.other | with_reducible apply Blk.alloc | with_reducible apply Blk.drew | (simp; done) | (simp; omega))) b1; have Ac0 : w1.cell? ⟨w.heap.size, 0, none⟩ = some (.int .i64 b) := A.cell 0; have Ac1 : w1.cell? ⟨w.heap.size, 1, none⟩ = some (.slice pa pn pcap) := A.cell 1; have Ac2 : w1.cell? ⟨w.heap.size, 2, none⟩ = some (.slice ca cn ccap) := A.cell 2; have Af0 : w1.frozen? ⟨w.heap.size, 0, none⟩ = false := A.free 0; have Af1 : w1.frozen? ⟨w.heap.size, 1, none⟩ = false := A.free 1; have Af2 : w1.frozen? ⟨w.heap.size, 2, none⟩ = false := A.free 2; have Az := A.lt
  have B : Blk w1 (w.heap.size + 1) [.int .i64 b, .slice pa' pn' pcap', .slice ca' cn' ccap'] 54 := Blk.below (by repeat' (first | with_reducible assumption | (show (_ : List Value) = _; rfl) | with_reducible exact Blk.new _ _ rfl | (with_reducible refine Blk.new _ _ ?_; simp; done) | with_reducible apply Blk.set_eq | with_reducible apply Blk.other | with_reducible apply Blk.alloc | with_reducible apply Blk.drew | (simp; done) | (simp; omega))) b1; have Bc0 : w1.cell? ⟨w.heap.size + 1, 0, none⟩ = some (.int .i64 b) := B.cell 0; have Bc1 : w1.cell? ⟨w.heap.size + 1, 1, none⟩ = some (.slice pa' pn' pcap') := B.cell 1; have Bc2 : w1.cell? ⟨w.heap.size + 1, 2, none⟩ = some (.slice ca' cn' ccap') := B.cell 2; have Bf0 : w1.frozen? ⟨w.heap.size + 1, 0, none⟩ = false := B.free 0; have Bf1 : w1.frozen? ⟨w.heap.size + 1, 1, none⟩ = false := B.free 1; have Bf2 : w1.frozen? ⟨w.heap.size + 1, 2, none⟩ = false := B.free 2; have Bz := B.lt
  clear b1
  go_wp2_with fail
  refine (C2.out _ p1).mono ?_
  rintro e w2 ⟨rfl, b2⟩
  have p2 : Below w.heap.size w w2 := p1.trans (b2.mono p1.size)
  clear b2
  go_wp2_with fail
  go_ret
  exact ⟨rfl, p2⟩
set_option maxRecDepth 100000 in
set_option maxHeartbeats 16000000 in
theorem ltriples_any {b m : Int} {pv cv tv : Value} {pl cl to : List Int} {w : World} (hb0 : -9223372036854775808 ≤ b) (hb : b ≤ 9223372036854775807) (hp : Ints w pv pl) (hc : Ints w cv cl) (ht : Ints w tv to) :
    Calls Try.prog 7 #[.agg #[.int .i64 b, pv, cv], tv, .int .i64 m] w fun e w' => e = .returned (.bool true) ∧ Below w.heap.size w w' := by
  have C0 := Lib.hid (fun W => pawake_any W)
  have CS := Lib.hid (fun W (hW : Below w.heap.size w W) => sstep_any (b := b) W hb (hp.keep hW) (hc.keep hW) (ht.keep hW))
  have CR := Lib.hid (fun W (hW : Below w.heap.size w W) => rtstep_any (b := b) W hb (hp.keep hW) (hc.keep hW) (ht.keep hW))
  have CA := Lib.hid (fun N W (hW : Below w.heap.size w W) => sat_any (b := b) (m := N) W hb (hp.keep hW) (hc.keep hW))
  have CB := Lib.hid (fun N W (hW : Below w.heap.size w W) => rat_any (b := b) (m := N) W hb (hp.keep hW) (hc.keep hW))
  have HB0 := Lib.hid hb0
  have HB := Lib.hid hb
  obtain ⟨pa, pn, pcap, _, _, _, rfl, -⟩ := hp
  obtain ⟨ca, cn, ccap, _, _, _, rfl, -⟩ := hc
  obtain ⟨ta, tn, tcap, _, _, _, rfl, -⟩ := ht
  clear hb0 hb
  generalize stepT b pl cl to = S at *
  obtain ⟨⟨S1, S2, S3⟩, S4⟩ := S
  dsimp only at CS CR
  have hE4 : (S4 != S4) = false := by simp
  have hE5 : ∀ x : Bool, (x != x) = false := by simp
  go_enter Try.func7, Try.ntmps7
  go_wp2_with fail
  refine (C0.out _).mono ?_
  rintro e w1 ⟨rfl, b1⟩
  have p1 : Below w.heap.size w w1 := (by repeat' (first | with_reducible exact Below.refl _ _ | with_reducible assumption | with_reducible refine bel_drew ?_ | with_reducible refine bel_alloc ?_ _ | with_reducible refine bel_set ?_ ?_ _ | with_reducible refine bel_call ?_ (by assumption) | (dsimp only; omega) | (simp; done) | (simp; omega)))
  have A : Blk w1 (w.heap.size) [.int .i64 b, .slice pa pn pcap, .slice ca cn ccap] 54 := Blk.below (by repeat' (first | with_reducible assumption | (show (_ : List Value) = _; rfl) | with_reducible exact Blk.new _ _ rfl | (with_reducible refine Blk.new _ _ ?_; simp; done) | with_reducible apply Blk.set_eq | with_reducible apply Blk.other | with_reducible apply Blk.alloc | with_reducible apply Blk.drew | (simp; done) | (simp; omega))) b1; have Ac0 : w1.cell? ⟨w.heap.size, 0, none⟩ = some (.int .i64 b) := A.cell 0; have Ac1 : w1.cell? ⟨w.heap.size, 1, none⟩ = some (.slice pa pn pcap) := A.cell 1; have Ac2 : w1.cell? ⟨w.heap.size, 2, none⟩ = some (.slice ca cn ccap) := A.cell 2; have Af0 : w1.frozen? ⟨w.heap.size, 0, none⟩ = false := A.free 0; have Af1 : w1.frozen? ⟨w.heap.size, 1, none⟩ = false := A.free 1; have Af2 : w1.frozen? ⟨w.heap.size, 2, none⟩ = false := A.free 2; have Az := A.lt
  clear b1 C0
  go_wp2_with fail
  refine (CS.out _ p1).mono ?_
  rintro e w2 ⟨r1, r2, rfl, o1, o2, b2⟩
  obtain ⟨a1, k1, m1, rfl⟩ := o1.shape
  obtain ⟨a2, k2, m2, rfl⟩ := o2.shape
  have p2 : Below w.heap.size w w2 := p1.trans (b2.mono p1.size)
  have B : Blk w2 (w.heap.size) [.int .i64 b, .slice pa pn pcap, .slice ca cn ccap] 54 := A.below b2; have Bc0 : w2.cell? ⟨w.heap.size, 0, none⟩ = some (.int .i64 b) := B.cell 0; have Bc1 : w2.cell? ⟨w.heap.size, 1, none⟩ = some (.slice pa pn pcap) := B.cell 1; have Bc2 : w2.cell? ⟨w.heap.size, 2, none⟩ = some (.slice ca cn ccap) := B.cell 2; have Bf0 : w2.frozen? ⟨w.heap.size, 0, none⟩ = false := B.free 0; have Bf1 : w2.frozen? ⟨w.heap.size, 1, none⟩ = false := B.free 1; have Bf2 : w2.frozen? ⟨w.heap.size, 2, none⟩ = false := B.free 2; have Bz := B.lt
  have s2 := p2.size
  have I1 := Lib.hid o1.ints
  have I2 := Lib.hid o2.ints
  clear b2 A Ac0 Ac1 Ac2 Af0 Af1 Af2 Az p1 CS o1 o2
  go_wp2_with fail
  refine (CR.out _ (by repeat' (first | with_reducible exact Below.refl _ _ | with_reducible assumption | with_reducible refine bel_drew ?_ | with_reducible refine bel_alloc ?_ _ | with_reducible refine bel_set ?_ ?_ _ | with_reducible refine bel_call ?_ (by assumption) | (dsimp only; omega) | (simp; done) | (simp; omega)))).mono ?_
  rintro e w3 ⟨r3, r4, rfl, o3, o4, b3⟩
  obtain ⟨a3, k3, m3, rfl⟩ := o3.shape
  obtain ⟨a4, k4, m4, rfl⟩ := o4.shape
  have q3 : Below w2.heap.size w2 w3 := (by repeat' (first | with_reducible exact Below.refl _ _ | with_reducible assumption | with_reducible refine bel_drew ?_ | with_reducible refine bel_alloc ?_ _ | with_reducible refine bel_set ?_ ?_ _ | with_reducible refine bel_call ?_ (by assumption) | (dsimp only; omega) | (simp; done) | (simp; omega)))
  have p3 : Below w.heap.size w w3 := p2.trans (q3.mono p2.size)
  have D : Blk w3 (w.heap.size) [.int .i64 b, .slice pa pn pcap, .slice ca cn ccap] 54 := Blk.below (by repeat' (first | with_reducible assumption | (show (_ : List Value) = _; rfl) | with_reducible exact Blk.new _ _ rfl | (with_reducible refine Blk.new _ _ ?_; simp; done) | with_reducible apply Blk.set_eq | with_reducible apply Blk.other | with_reducible apply Blk.alloc | with_reducible apply Blk.drew | (simp; done) | (simp; omega))) b3; have Dc0 : w3.cell? ⟨w.heap.size, 0, none⟩ = some (.int .i64 b) := D.cell 0; have Dc1 : w3.cell? ⟨w.heap.size, 1, none⟩ = some (.slice pa pn pcap) := D.cell 1; have Dc2 : w3.cell? ⟨w.heap.size, 2, none⟩ = some (.slice ca cn ccap) := D.cell 2; have Df0 : w3.frozen? ⟨w.heap.size, 0, none⟩ = false := D.free 0; have Df1 : w3.frozen? ⟨w.heap.size, 1, none⟩ = false := D.free 1; have Df2 : w3.frozen? ⟨w.heap.size, 2, none⟩ = false := D.free 2; have Dz := D.lt
  have E : Blk w3 (w2.heap.size) [.int .i64 S1, .slice a1 k1 m1, .slice a2 k2 m2] 54 := Blk.below (by repeat' (first | with_reducible assumption | (show (_ : List Value) = _; rfl) | with_reducible exact Blk.new _ _ rfl | (with_reducible refine Blk.new _ _ ?_; simp; done) | with_reducible apply Blk.set_eq | with_reducible apply Blk.other | with_reducible apply Blk.alloc | with_reducible apply Blk.drew | (simp; done) | (simp; omega))) b3; have Ec0 : w3.cell? ⟨w2.heap.size, 0, none⟩ = some (.int .i64 S1) := E.cell 0; have Ec1 : w3.cell? ⟨w2.heap.size, 1, none⟩ = some (.slice a1 k1 m1) := E.cell 1; have Ec2 : w3.cell? ⟨w2.heap.size, 2, none⟩ = some (.slice a2 k2 m2) := E.cell 2; have Ef0 : w3.frozen? ⟨w2.heap.size, 0, none⟩ = false := E.free 0; have Ef1 : w3.frozen? ⟨w2.heap.size, 1, none⟩ = false := E.free 1; have Ef2 : w3.frozen? ⟨w2.heap.size, 2, none⟩ = false := E.free 2; have Ez := E.lt
  have I3 := Lib.hid o3.ints
  have I4 := Lib.hid o4.ints
  have s3 := q3.size
  have CT := Lib.hid (fun W (hW : Below w3.heap.size w3 W) => triples_true (b := S1) W ((I1.out.keep q3).keep hW) ((I2.out.keep q3).keep hW) (I3.out.keep hW) (I4.out.keep hW))
  clear b3 B Bc0 Bc1 Bc2 Bf0 Bf1 Bf2 Bz CR o3 o4 I1 I2 I3 I4 p2
  go_wp2_with fail
  refine (CT.out _ (by repeat' (first | with_reducible exact Below.refl _ _ | with_reducible assumption | with_reducible refine bel_drew ?_ | with_reducible refine bel_alloc ?_ _ | with_reducible refine bel_set ?_ ?_ _ | with_reducible refine bel_call ?_ (by assumption) | (dsimp only; omega) | (simp; done) | (simp; omega)))).mono ?_
  rintro e w4 ⟨rfl, b4⟩
  have p4 : Below w.heap.size w w4 := (by repeat' (first | with_reducible exact Below.refl _ _ | with_reducible assumption | with_reducible refine bel_drew ?_ | with_reducible refine bel_alloc ?_ _ | with_reducible refine bel_set ?_ ?_ _ | with_reducible refine bel_call ?_ (by assumption) | (dsimp only; omega) | (simp; done) | (simp; omega)))
  have F : Blk w4 w.heap.size [.int .i64 b, .slice pa pn pcap, .slice ca cn ccap] 54 := Blk.below (by repeat' (first | with_reducible assumption | (show (_ : List Value) = _; rfl) | with_reducible exact Blk.new _ _ rfl | (with_reducible refine Blk.new _ _ ?_; simp; done) | with_reducible apply Blk.set_eq | with_reducible apply Blk.other | with_reducible apply Blk.alloc | with_reducible apply Blk.drew | (simp; done) | (simp; omega))) b4
  clear b4 CT D Dc0 Dc1 Dc2 Df0 Df1 Df2 Dz E Ec0 Ec1 Ec2 Ef0 Ef1 Ef2 Ez p3 q3 s2 s3
  go_wp2_with fail
  go_loopg [11] 3 (fun g s11 wr => ∃ k : Int, -1 ≤ k ∧ k ≤ 2 ∧ g = (2 - k).toNat ∧ s11 = .int .i64 k ∧ Blk wr w.heap.size [.int .i64 b, .slice pa pn pcap, .slice ca cn ccap] 54 ∧ Below w.heap.size w wr)
  case atStart => exact ⟨-1, by omega, by omega, rfl, rfl, F, p4⟩
  case round =>
    obtain ⟨k, hk0, hk1, rfl, rfl, G, q⟩ := hrel
    have Gc0 : wr.cell? ⟨w.heap.size, 0, none⟩ = some (.int .i64 b) := G.cell 0; have Gc1 : wr.cell? ⟨w.heap.size, 1, none⟩ = some (.slice pa pn pcap) := G.cell 1; have Gc2 : wr.cell? ⟨w.heap.size, 2, none⟩ = some (.slice ca cn ccap) := G.cell 2; have Gz := G.lt
    clear F p4
    by_cases hlt : k < 2
    · have hw1 : IntKind.i64.wrap (k + 1) = k + 1 := Go.IntWalk.i64_in _ (by omega)
      have key : ∀ N : Int, True := fun _ => trivial
      by_cases hg : 0 ≤ k
      · by_cases hbig : -4611686018427387904 < b
        · have hw2 : IntKind.i64.wrap (b - k) = b - k := Go.IntWalk.i64_in _ (by have := HB.out; omega)
          go_wp2_with fail
          refine (CA.out _ _ q).mono ?_
          rintro e w5 ⟨r, rfl, o1, b5⟩
          have p5 : Below w.heap.size w w5 := q.trans (b5.mono q.size)
          have H : Blk w5 (w.heap.size) [.int .i64 b, .slice pa pn pcap, .slice ca cn ccap] 54 := G.below b5; have Hc0 : w5.cell? ⟨w.heap.size, 0, none⟩ = some (.int .i64 b) := H.cell 0; have Hc1 : w5.cell? ⟨w.heap.size, 1, none⟩ = some (.slice pa pn pcap) := H.cell 1; have Hc2 : w5.cell? ⟨w.heap.size, 2, none⟩ = some (.slice ca cn ccap) := H.cell 2; have Hf0 : w5.frozen? ⟨w.heap.size, 0, none⟩ = false := H.free 0; have Hf1 : w5.frozen? ⟨w.heap.size, 1, none⟩ = false := H.free 1; have Hf2 : w5.frozen? ⟨w.heap.size, 2, none⟩ = false := H.free 2; have Hz := H.lt
          have I1 := Lib.hid o1.ints
          clear o1 b5 Gc0 Gc1 Gc2 Gz G q
          go_wp2_with fail
          refine (CB.out _ _ p5).mono ?_
          rintro e w6 ⟨r', rfl, o2, b6⟩
          have p6 : Below w.heap.size w w6 := p5.trans (b6.mono p5.size)
          have C7 := Lib.hid (ints_true w6 (I1.out.keep b6) o2.ints)
          have J := H.below b6
          clear o2 b6 I1 H Hc0 Hc1 Hc2 Hf0 Hf1 Hf2 Hz p5
          go_wp2_with fail
          refine C7.out.mono ?_
          rintro e w7 ⟨rfl, b7⟩
          have p7 : Below w.heap.size w w7 := p6.trans (b7.mono p6.size)
          have K := J.below b7
          clear C7 b7 J p6
          go_wp2_with fail
          go_roundg (2 - (k + 1)).toNat
          case measure => omega
          case rel => exact ⟨k + 1, by omega, by omega, rfl, (by first | rfl | simp), K, p7⟩
        · go_wp2_with fail
          refine (CA.out _ _ q).mono ?_
          rintro e w5 ⟨r, rfl, o1, b5⟩
          have p5 : Below w.heap.size w w5 := q.trans (b5.mono q.size)
          have H : Blk w5 (w.heap.size) [.int .i64 b, .slice pa pn pcap, .slice ca cn ccap] 54 := G.below b5; have Hc0 : w5.cell? ⟨w.heap.size, 0, none⟩ = some (.int .i64 b) := H.cell 0; have Hc1 : w5.cell? ⟨w.heap.size, 1, none⟩ = some (.slice pa pn pcap) := H.cell 1; have Hc2 : w5.cell? ⟨w.heap.size, 2, none⟩ = some (.slice ca cn ccap) := H.cell 2; have Hf0 : w5.frozen? ⟨w.heap.size, 0, none⟩ = false := H.free 0; have Hf1 : w5.frozen? ⟨w.heap.size, 1, none⟩ = false := H.free 1; have Hf2 : w5.frozen? ⟨w.heap.size, 2, none⟩ = false := H.free 2; have Hz := H.lt
          have I1 := Lib.hid o1.ints
          clear o1 b5 Gc0 Gc1 Gc2 Gz G q
          go_wp2_with fail
          refine (CB.out _ _ p5).mono ?_
          rintro e w6 ⟨r', rfl, o2, b6⟩
          have p6 : Below w.heap.size w w6 := p5.trans (b6.mono p5.size)
          have C7 := Lib.hid (ints_true w6 (I1.out.keep b6) o2.ints)
          have J := H.below b6
          clear o2 b6 I1 H Hc0 Hc1 Hc2 Hf0 Hf1 Hf2 Hz p5
          go_wp2_with fail
          refine C7.out.mono ?_
          rintro e w7 ⟨rfl, b7⟩
          have p7 : Below w.heap.size w w7 := p6.trans (b7.mono p6.size)
          have K := J.below b7
          clear C7 b7 J p6
          go_wp2_with fail
          go_roundg (2 - (k + 1)).toNat
          case measure => omega
          case rel => exact ⟨k + 1, by omega, by omega, rfl, (by first | rfl | simp), K, p7⟩
      · go_wp2_with fail
        refine (CA.out _ _ q).mono ?_
        rintro e w5 ⟨r, rfl, o1, b5⟩
        have p5 : Below w.heap.size w w5 := q.trans (b5.mono q.size)
        have H : Blk w5 (w.heap.size) [.int .i64 b, .slice pa pn pcap, .slice ca cn ccap] 54 := G.below b5; have Hc0 : w5.cell? ⟨w.heap.size, 0, none⟩ = some (.int .i64 b) := H.cell 0; have Hc1 : w5.cell? ⟨w.heap.size, 1, none⟩ = some (.slice pa pn pcap) := H.cell 1; have Hc2 : w5.cell? ⟨w.heap.size, 2, none⟩ = some (.slice ca cn ccap) := H.cell 2; have Hf0 : w5.frozen? ⟨w.heap.size, 0, none⟩ = false := H.free 0; have Hf1 : w5.frozen? ⟨w.heap.size, 1, none⟩ = false := H.free 1; have Hf2 : w5.frozen? ⟨w.heap.size, 2, none⟩ = false := H.free 2; have Hz := H.lt
        have I1 := Lib.hid o1.ints
        clear o1 b5 Gc0 Gc1 Gc2 Gz G q
        go_wp2_with fail
        refine (CB.out _ _ p5).mono ?_
        rintro e w6 ⟨r', rfl, o2, b6⟩
        have p6 : Below w.heap.size w w6 := p5.trans (b6.mono p5.size)
        have C7 := Lib.hid (ints_true w6 (I1.out.keep b6) o2.ints)
        have J := H.below b6
        clear o2 b6 I1 H Hc0 Hc1 Hc2 Hf0 Hf1 Hf2 Hz p5
        go_wp2_with fail
        refine C7.out.mono ?_
        rintro e w7 ⟨rfl, b7⟩
        have p7 : Below w.heap.size w w7 := p6.trans (b7.mono p6.size)
        have K := J.below b7
        clear C7 b7 J p6
        go_wp2_with fail
        go_roundg (2 - (k + 1)).toNat
        case measure => omega
        case rel => exact ⟨k + 1, by omega, by omega, rfl, (by first | rfl | simp), K, p7⟩
    · go_wp2_with fail
      go_ret
      exact ⟨rfl, q⟩
end Go.Proofs.Ytbckfoldjlgabaa
namespace Go.Proofs.Ytbckfoldjlgabaa
open Go.RowKit
open Fl (nan key canon)
theorem made_inc (n : Nat) : (madeCells (Value.int .i64 0).cells (n * 1)).toList = flat (inc (fun _ => 0)) n := by
  rw [Nat.mul_one]
  unfold madeCells
  rw [Array.toList_map, Array.toList_range]
  induction n with
  | zero => rfl
  | succ n ih =>
    rw [List.range_succ, List.map_append, ih]
    show _ ++ [_] = flat _ n ++ [_]
    congr 2
    show (#[Value.int .i64 0])[n % 1]! = _
    rw [Nat.mod_one]
    rfl
/-- noughts that were just made -/
theorem run_make_ints (w : World) (base n : Nat) (kl kc : IntKind) (hn : n ≤ 1073741824) (hb : base ≤ w.heap.size) :
    ∃ w', (Instr.makeSlice 23 (.int kl (n : Int)) (.int kc (n : Int))).run Try.prog w = .ok (.slice (some ⟨w.heap.size, 0, none⟩) n n) w' ∧ OwnI w' base (.slice (some ⟨w.heap.size, 0, none⟩) n n) (toL n (fun _ => 0)) ∧ Below w.heap.size w w' := by
  obtain ⟨i0, hi, hz0, hz1, hz2⟩ := info_parts infoInt
  obtain ⟨w', h1, h2, h3⟩ := run_make_full (P := Try.prog) w base 23 3 i0 _ 1 Try.underlying23 hi hz0 hz1 kl kc n (by rw [hz2]; omega) (by unfold maxLen; omega) hb
  rw [made_inc] at h2
  exact ⟨w', h1, ⟨n, _, rfl, fun _ _ => by omega, h2, by omega⟩, (Below.refl _ _).grown h3 (Nat.le_refl _) (fun _ h => by cases h)⟩
/-- a slice that doesn't lie in block b -/
def Off (v : Value) (b : Nat) : Prop := ∀ b' o n c, v = .slice (some ⟨b', o, none⟩) n c → 0 < n → b' ≠ b
theorem OwnI.off {w : World} {N b : Nat} {v : Value} {l : List Int} {cs : List Value} (h : OwnI w N v l) (hB : Blk w b cs 54) : Off v b := by
  intro b' o n c e hn
  obtain ⟨m, p, rfl, hp, ho, _⟩ := h
  rcases ho.2 with ⟨h1, _⟩ | ⟨g, cap, cur, h1, _, h2, _⟩
  · rw [h1] at e; cases e
  · rw [h1] at e; cases e; exact kind_ne ⟨_, h2⟩ hB.kind (by decide)
theorem Ints.offLow {w : World} {b : Nat} {v : Value} {l : List Int} (h : Ints w v l) (hb : w.heap.size ≤ b) : Off v b := by
  intro b' o n c e hn
  obtain ⟨a, m, cap, b2, o2, p, rfl, _, ha, hr, _⟩ := h
  cases e
  have := ha hn
  cases this
  have := (hr hn).lt
  omega
theorem Ints.upd {w w' : World} {b : Nat} {v : Value} {l : List Int} (h : Ints w v l) (ho : Off v b) (hu : Upd w w' (fun x => x = b)) : Ints w' v l := by
  obtain ⟨a, n, cap, b', o, p, rfl, h2, h3, h4, h5⟩ := h
  refine ⟨a, n, cap, b', o, p, rfl, h2, h3, fun hn => ?_, h5⟩
  have hN := h4 hn
  have hne : b' ≠ b := ho b' o n cap (by rw [h3 hn]) hn
  have hbl := hu.block b' hN.lt hne
  refine ⟨Nat.lt_of_lt_of_le hN.lt hu.size, hN.ok, fun i hi => ?_⟩
  rw [← hN.c i hi]
  unfold World.cell?
  rw [hbl]
/-- lists of numbers lie there -/
def Lists (w : World) (v : Value) (ls : List (List Int)) : Prop :=
  ∃ (a : Option Addr) (n cap b o : Nat) (vv : Nat → Value), v = .slice a n cap ∧ ls.length = n ∧ (0 < n → a = some ⟨b, o, none⟩) ∧ (∀ i, i < n → b < w.heap.size ∧ w.cell? ⟨b, o + i, none⟩ = some (vv i) ∧ Ints w (vv i) (ls.getD i [])) ∧ n ≤ 1048576
/-- as StC; operation kf makes the block that is stored to; V tells of the values alone -/
structure StD (w0 W : World) (F : Nat → Value → World → Prop) (V : Nat → Value → Prop) (Fin : Value → World → Prop) (kf j : Nat) (g : Nat → Value) (L : Nat → Bool) (w' : World) : Prop where
  bel : Below w0.heap.size w0 w'
  ext : Below W.heap.size W w'
  val : ∀ i, i ≠ j → L i = true → V i (g i)
  at_ : L j = false → ∀ i, L i = true → F i (g i) w'
  fin : L j = true → L kf = true ∧ Fin (g kf) w'
section
variable {w0 W w' w'' : World} {F : Nat → Value → World → Prop} {V : Nat → Value → Prop} {Fin : Value → World → Prop} {kf j : Nat} {g : Nat → Value} {L : Nat → Bool}
theorem StD.loc (g g' : Nat → Value) (L : Nat → Bool) (w' : World) (he : ∀ i, L i = true → g i = g' i) (h : StD w0 W F V Fin kf j g L w') : StD w0 W F V Fin kf j g' L w' :=
  ⟨h.bel, h.ext, fun i hn hi => by rw [← he i hi]; exact h.val i hn hi, fun hj i hi => by rw [← he i hi]; exact h.at_ hj i hi, fun hj => ⟨(h.fin hj).1, by rw [← he kf (h.fin hj).1]; exact (h.fin hj).2⟩⟩
theorem StD.begin (n : Nat) (hb : Below w0.heap.size w0 W) (hj : j < n) (hF : ∀ i u w, n ≤ i → F i u w) (hV : ∀ i u, n ≤ i → V i u) : StD w0 W F V Fin kf j g (fun i => decide (n ≤ i)) W.drew :=
  ⟨bel_drew hb, (Below.refl _ _).drew, fun i _ hi => hV i _ (of_decide_eq_true hi), fun _ i hi => hF i _ _ (of_decide_eq_true hi), fun h => absurd (of_decide_eq_true h) (by omega)⟩
theorem StD.upd (h : StD w0 W F V Fin kf j g L w') {i : Nat} (hi : i ≠ j) (hF : ∀ u w, F i u w) (hV : ∀ u, V i u) : StD w0 W F V Fin kf j g (Go.Proofs.Ytbckfoldjlgabaa.upd L i) w' := by
  have e := upd_other L (Ne.symm hi)
  refine ⟨h.bel, h.ext, fun k hn hk => ?_, fun hj k hk => ?_, fun hj => ?_⟩
  · by_cases hki : k = i
    · subst hki; exact hV _
    · rw [upd_other L hki] at hk; exact h.val k hn hk
  · rw [e] at hj
    by_cases hki : k = i
    · subst hki; exact hF _ _
    · rw [upd_other L hki] at hk; exact h.at_ hj k hk
  · rw [e] at hj
    refine ⟨?_, (h.fin hj).2⟩
    by_cases hki : kf = i
    · rw [hki]; exact upd_same _ _
    · rw [upd_other L hki]; exact (h.fin hj).1
theorem StD.new (h : StD w0 W F V Fin kf j g L w') {i : Nat} {u : Value} (hi : i ≠ j) (hj : L j = false) (hb : Below w'.heap.size w' w'') (hk : ∀ i u w w', Below w.heap.size w w' → F i u w → F i u w') (hF : F i u w'') (hV : V i u) : StD w0 W F V Fin kf j (RV.gset g i u) (Go.Proofs.Ytbckfoldjlgabaa.upd L i) w'' := by
  have e := upd_other L (Ne.symm hi)
  refine ⟨bel_call h.bel hb, bel_call h.ext hb, fun k hn hk' => ?_, fun _ k hk' => ?_, fun h' => absurd (e.symm.trans h') (by rw [hj]; decide)⟩
  · by_cases hki : k = i
    · subst hki; rw [RV.gset_same]; exact hV
    · rw [upd_other L hki] at hk'; rw [RV.gset_other _ _ hki]; exact h.val k hn hk'
  · by_cases hki : k = i
    · subst hki; rw [RV.gset_same]; exact hF
    · rw [upd_other L hki] at hk'; rw [RV.gset_other _ _ hki]; exact hk _ _ _ _ hb (h.at_ hj k hk')
theorem StD.store (h : StD w0 W F V Fin kf j g L w') (hne : kf ≠ j) (hkf : L kf = true) (hb : Below w0.heap.size w0 w'') (he : Below W.heap.size W w'') (hF : Fin (g kf) w'') : StD w0 W F V Fin kf j g (Go.Proofs.Ytbckfoldjlgabaa.upd L j) w'' :=
  ⟨hb, he, fun k hn hk => by rw [upd_other L hn] at hk; exact h.val k hn hk, fun a => absurd ((upd_same L j).symm.trans a) (by decide), fun _ => ⟨by rw [upd_other L hne]; exact hkf, hF⟩⟩
end
/-- operation kv's value is a tuple of a triple and a number -/
def VU (z c : Int) (kv i : Nat) (u : Value) : Prop := i = kv → ∃ a k m a' k' m', u = .tuple #[.agg #[.int .i64 z, .slice a k m, .slice a' k' m'], .int .i64 c]
theorem VU.none {z c : Int} {kv i : Nat} (u : Value) (h : i ≠ kv) : VU z c kv i u := fun e => absurd e h
/-- what the operations of 'u, e := Step(t, ends[i])' make -/
def StU (N M : Nat) (z : Int) (l1 l2 : List Int) (c : Int) (i : Nat) (u : Value) (w : World) : Prop :=
  (i = 5 ∨ i = 6 → ∃ u1 u2, u = .tuple #[.agg #[.int .i64 z, u1, u2], .int .i64 c] ∧ OwnI w N u1 l1 ∧ OwnI w N u2 l2) ∧
  (i = 7 → ∃ u1 u2, u = .agg #[.int .i64 z, u1, u2] ∧ OwnI w N u1 l1 ∧ OwnI w N u2 l2) ∧
  (i = 9 → ∃ b, u = .pointer (some ⟨b, 0, none⟩) ∧ N ≤ b ∧ M ≤ b ∧ Blk w b [.int .i64 0, .slice none 0 0, .slice none 0 0] 54)
theorem StU.keep (N M : Nat) (z : Int) (l1 l2 : List Int) (c : Int) (i : Nat) (u : Value) (w w' : World) (hb : Below w.heap.size w w') (h : StU N M z l1 l2 c i u w) : StU N M z l1 l2 c i u w' :=
  ⟨fun e => let ⟨u1, u2, h1, h2, h3⟩ := h.1 e; ⟨u1, u2, h1, h2.keep hb, h3.keep hb⟩, fun e => let ⟨u1, u2, h1, h2, h3⟩ := h.2.1 e; ⟨u1, u2, h1, h2.keep hb, h3.keep hb⟩, fun e => let ⟨b, h1, h2, h3, h4⟩ := h.2.2 e; ⟨b, h1, h2, h3, h4.below hb⟩⟩
theorem StU.none {N M : Nat} {z : Int} {l1 l2 : List Int} {c : Int} {i : Nat} (u : Value) (w : World) (h : i ≠ 5 ∧ i ≠ 6 ∧ i ≠ 7 ∧ i ≠ 9) : StU N M z l1 l2 c i u w :=
  ⟨fun e => absurd e (by omega), fun e => absurd e (by omega), fun e => absurd e (by omega)⟩
def TrU (N M : Nat) (z : Value) (l1 l2 : List Int) (u : Value) (w : World) : Prop := ∃ b, u = .pointer (some ⟨b, 0, none⟩) ∧ M ≤ b ∧ TrAt N b z l1 l2 w
/-- what the operations of 't := Triple{Prev: make(..), Cur: make(..)}' make -/
def StM (N M n : Nat) (i : Nat) (u : Value) (w : World) : Prop :=
  (i = 1 ∨ i = 3 → ∃ a, u = .slice a n n ∧ OwnI w N u (toL n (fun _ => 0))) ∧
  (i = 4 → ∃ a1 a2, u = .agg #[.int .i64 0, .slice a1 n n, .slice a2 n n] ∧ OwnI w N (.slice a1 n n) (toL n (fun _ => 0)) ∧ OwnI w N (.slice a2 n n) (toL n (fun _ => 0))) ∧
  (i = 5 → ∃ b, u = .pointer (some ⟨b, 0, none⟩) ∧ N ≤ b ∧ M ≤ b ∧ Blk w b [.int .i64 0, .slice none 0 0, .slice none 0 0] 54)
theorem StM.keep (N M n : Nat) (i : Nat) (u : Value) (w w' : World) (hb : Below w.heap.size w w') (h : StM N M n i u w) : StM N M n i u w' :=
  ⟨fun e => let ⟨a, h1, h2⟩ := h.1 e; ⟨a, h1, h2.keep hb⟩, fun e => let ⟨a1, a2, h1, h2, h3⟩ := h.2.1 e; ⟨a1, a2, h1, h2.keep hb, h3.keep hb⟩, fun e => let ⟨b, h1, h2, h3, h4⟩ := h.2.2 e; ⟨b, h1, h2, h3, h4.below hb⟩⟩
theorem StM.none {N M n i : Nat} (u : Value) (w : World) (h : i ≠ 1 ∧ i ≠ 3 ∧ i ≠ 4 ∧ i ≠ 5) : StM N M n i u w :=
  ⟨fun e => absurd e (by omega), fun e => absurd e (by omega), fun e => absurd e (by omega)⟩
theorem toL_zero_getD (n i : Nat) : (toL n (fun _ => (0 : Int))).getD i 0 = 0 := by
  by_cases h : i < n
  · exact toL_getD h
  · rw [List.getD_eq_getElem?_getD, List.getElem?_eq_none (by rw [toL_len]; omega)]; rfl
theorem rightT_start (n : Nat) : rightT 0 (toL n (fun _ => 0)) (toL n (fun _ => 0)) = true := by
  rw [rightT_toL]
  exact decide_eq_true ⟨by omega, fun _ _ => by omega, fun _ _ => ⟨by omega, fun _ => rfl⟩⟩
theorem rightT_next {b : Int} {l l' l'' : List Int} (h : rightT b l l' = true) (hf : fwd l' l'' = true) : rightT (b + 1) l' l'' = true := by
  obtain ⟨n, p, rfl⟩ : ∃ n p, l = toL n p := ⟨_, _, toL_of 0 l⟩
  obtain ⟨n', q, rfl⟩ : ∃ n p, l' = toL n p := ⟨_, _, toL_of 0 l'⟩
  obtain ⟨n'', r, rfl⟩ : ∃ n p, l'' = toL n p := ⟨_, _, toL_of 0 l''⟩
  have h2 := (rightT_len h).2
  rw [fwd_toL, decide_eq_true_iff] at h2 hf
  obtain ⟨rfl, h2⟩ := h2
  obtain ⟨rfl, h3⟩ := hf
  rw [rightT_toL, decide_eq_true_iff] at *
  exact ⟨by omega, h3, fun i hi => ⟨by have := h2 i hi; have := (h.2.2 i hi).1; omega, fun e => by omega⟩⟩
theorem OwnI.nilshape {w : World} {N : Nat} {v : Value} (h : OwnI w N v []) : ∃ a cap, v = .slice a 0 cap := h.ints.shape
theorem stepT_no {b : Int} {l l' l'' : List Int} (h : fwd l' l'' = false) : stepT b l l' l'' = ((0, [], []), 70) := by
  unfold stepT; rw [if_neg (fun h' => by rw [h] at h'; cases h'.2)]
theorem stepT_yes {b : Int} {l l' l'' : List Int} (h0 : rightT b l l' = true) (h1 : b < 1099511627776) (h : fwd l' l'' = true) : stepT b l l' l'' = ((b + 1, l', l''), 0) := by
  unfold stepT; rw [if_pos ⟨h0, h⟩, if_neg (by omega)]
set_option maxRecDepth 100000 in
set_option maxHeartbeats 16000000 in
theorem lsteps_any {k : Int} {v : Value} {ls : List (List Int)} {w : World} (h : Lists w v ls) :
    Calls Try.prog 8 #[v, .int .i64 k] w fun e w' => e = .returned (.bool true) ∧ Below w.heap.size w w' := by
  obtain ⟨a, N, cap, lb, lo, vv, rfl, hlen, ha, hr, hN⟩ := h
  have HR := Lib.hid hr
  have HA := Lib.hid ha
  have C0 := Lib.hid (fun W => pawake_any W)
  obtain ⟨n, hn⟩ : ∃ n : Nat, k % 18446744073709551616 % 5 = n := ⟨(k % 18446744073709551616 % 5).toNat, by omega⟩
  have hn5 : n < 5 := by omega
  have k2 : IntKind.u64.wrap k = k % 18446744073709551616 := IntKind.wrap_u64 _
  have k3 : 0 ≤ k % 18446744073709551616 := Int.emod_nonneg _ (by decide)
  have k4 : Int.tmod (k % 18446744073709551616) 5 = (n : Int) := (tmod_pos k3).trans hn
  have k8 : IntKind.i64.wrap (n : Int) = (n : Int) := Go.IntWalk.i64_in _ (by omega)
  have k9 : IntKind.u64.wrap (n : Int) = (n : Int) := by rw [IntKind.wrap_u64]; omega
  generalize k % 18446744073709551616 = uu at *
  clear hn hr ha hlen
  go_enter Try.func8, Try.ntmps8
  go_wp2_with fail
  refine (C0.out _).mono ?_
  rintro e w1 ⟨rfl, b1⟩
  clear C0
  go_wp2_with fail
  refine RV.wp_region_ghost (StD w w1 (StM w.heap.size w1.heap.size n) (VU 0 0 6) (fun u w' => ∃ b, u = .pointer (some ⟨b, 0, none⟩) ∧ w.heap.size ≤ b ∧ TrAt w.heap.size b (.int .i64 0) (toL n (fun _ => 0)) (toL n (fun _ => 0)) w') 5 6) (by kernel_rfl) (by kernel_rfl) StD.loc (.begin _ b1 (by decide) (fun i u w' hi => StM.none u w' (by have hi : 7 ≤ i := hi; omega)) (fun i u hi => VU.none u (by have hi : 7 ≤ i := hi; omega))) ?_
  refine RV.lexg_val (fun _ => by rfl) ?_; apply Exists.intro; refine ⟨?_, ?_⟩; ((intro g L w' hU hT; have hT' := hT.upd (i := 0) (by decide) (fun _ _ => StM.none _ _ (by decide)) (fun _ => VU.none _ (by decide)); obtain ⟨hc, hf⟩ := bcell hT.ext; clear hT hU; go_simp; exact rfl)); simp only [Act.put, List.setIfInBounds_toArray, List.set_cons_zero, List.set_cons_succ]
  refine RV.lexg_new (fun _ => by rfl) ?_ ?_; (next => (intro g L w' hU hT; have p' := hT.bel; have hs4 := hU.closed.no (j := 4) (i := 1) rfl (by kernel_rfl) hU.not; have hs6 := hU.closed.no (j := 6) (i := 4) rfl (by kernel_rfl) hs4; obtain ⟨w'', h1, h2, h3⟩ := run_make_ints w' w.heap.size n .i64 .i64 (by omega) p'.size; exact lx_make rfl rfl rfl h1 (hT.new (by decide) hs6 h3 (StM.keep _ _ _) ⟨fun _ => ⟨_, rfl, h2⟩, fun h => absurd h (by decide), fun h => absurd h (by decide)⟩ (VU.none _ (by decide))))); simp only [Act.put, List.setIfInBounds_toArray, List.set_cons_zero, List.set_cons_succ]
  refine RV.lexg_val (fun _ => by rfl) ?_; apply Exists.intro; refine ⟨?_, ?_⟩; ((intro g L w' hU hT; have hT' := hT.upd (i := 2) (by decide) (fun _ _ => StM.none _ _ (by decide)) (fun _ => VU.none _ (by decide)); obtain ⟨hc, hf⟩ := bcell hT.ext; clear hT hU; go_simp; exact rfl)); simp only [Act.put, List.setIfInBounds_toArray, List.set_cons_zero, List.set_cons_succ]
  refine RV.lexg_new (fun _ => by rfl) ?_ ?_; (next => (intro g L w' hU hT; have p' := hT.bel; have hs4 := hU.closed.no (j := 4) (i := 3) rfl (by kernel_rfl) hU.not; have hs6 := hU.closed.no (j := 6) (i := 4) rfl (by kernel_rfl) hs4; obtain ⟨w'', h1, h2, h3⟩ := run_make_ints w' w.heap.size n .i64 .i64 (by omega) p'.size; exact lx_make rfl rfl rfl h1 (hT.new (by decide) hs6 h3 (StM.keep _ _ _) ⟨fun _ => ⟨_, rfl, h2⟩, fun h => absurd h (by decide), fun h => absurd h (by decide)⟩ (VU.none _ (by decide))))); simp only [Act.put, List.setIfInBounds_toArray, List.set_cons_zero, List.set_cons_succ]
  refine RV.lexg_new (fun _ => by rfl) ?_ ?_
  · intro g L w' hU hT
    have h6 := hU.closed.no (j := 6) (i := 4) rfl (by kernel_rfl) hU.not
    obtain ⟨a1, e1, o1⟩ := (hT.at_ h6 1 (hU.yes rfl (by kernel_rfl))).1 (.inl rfl)
    obtain ⟨a2, e2, o2⟩ := (hT.at_ h6 3 (hU.yes rfl (by kernel_rfl))).1 (.inr rfl)
    refine lx_ok (u := .agg #[.int .i64 0, .slice a1 n n, .slice a2 n n]) (w' := w') ?_ (hT.new (by decide) h6 (Below.refl _ _) (StM.keep _ _ _) ⟨fun h => absurd h (by decide), fun _ => ⟨a1, a2, rfl, e1 ▸ o1, e2 ▸ o2⟩, fun h => absurd h (by decide)⟩ (VU.none _ (by decide)))
    clear hT hU o1 o2
    go_simp
  simp only [Act.put, List.setIfInBounds_toArray, List.set_cons_zero, List.set_cons_succ]
  refine RV.lexg_new (fun _ => by rfl) ?_ ?_
  · intro g L w' hU hT
    have h6 := hU.closed.no (j := 6) (i := 5) rfl (by kernel_rfl) hU.not
    refine lx_ok (u := .pointer (some ⟨w'.heap.size, 0, none⟩)) (w' := w'.alloc (.cells #[.int .i64 0, .slice none 0 0, .slice none 0 0] 54)) ?_ (hT.new (by decide) h6 (bel_alloc1 _ _) (StM.keep _ _ _) ⟨fun h => absurd h (by decide), fun h => absurd h (by decide), fun _ => ⟨_, rfl, hT.bel.size, hT.ext.size, Blk.new [.int .i64 0, .slice none 0 0, .slice none 0 0] _ rfl⟩⟩ (VU.none _ (by decide)))
    clear hT hU
    go_simp
  simp only [Act.put, List.setIfInBounds_toArray, List.set_cons_zero, List.set_cons_succ]
  refine RV.lexg_op (fun _ => by rfl) ?_
  refine ⟨fun _ => undef, ?_, RV.known_const _ _, ?_⟩
  · intro g L w' hU hT
    obtain ⟨a1, a2, e4, o1, o2⟩ := (hT.at_ hU.not 4 (hU.yes rfl (by kernel_rfl))).2.1 rfl
    have l5 : L 5 = true := hU.yes rfl (by kernel_rfl)
    obtain ⟨tb, e5, hb5, hx, hB⟩ := (hT.at_ hU.not 5 l5).2.2 rfl
    have hT' : StD w w1 (StM w.heap.size w1.heap.size n) (VU 0 0 6) (fun u w' => ∃ b, u = .pointer (some ⟨b, 0, none⟩) ∧ w.heap.size ≤ b ∧ TrAt w.heap.size b (.int .i64 0) (toL n (fun _ => 0)) (toL n (fun _ => 0)) w') 5 6 g (upd L 6) (setAll w' tb 0 [.int .i64 0, .slice a1 n n, .slice a2 n n]) := StD.store hT (by decide) l5 (setAll_below hb5 _ _ hT.bel) (setAll_below hx _ _ hT.ext) ⟨tb, e5, hb5, trAt_store hB rfl o1 o2⟩
    have zc0 := hB.cell 0; have zf0 := hB.free 0; have zc1 := hB.cell 1; have zf1 := hB.free 1; have zc2 := hB.cell 2; have zf2 := hB.free 2
    simp only [List.getElem?_cons_zero, List.getElem?_cons_succ] at zc0 zc1 zc2
    clear hT hU o1 o2 hB
    rw [e4, e5]
    go_simp
    first | exact hT' | exact ⟨hT', rfl⟩
  simp only [Act.put]
  refine RV.lexg_nil ?_
  intro g w2 hT
  have p2 := hT.bel
  obtain ⟨_, tb, e5, hb5, pv, cv, hB, o1, o2⟩ := hT.fin rfl
  clear hT
  dsimp only
  rw [e5]
  go_wp2_with fail
  obtain ⟨w3, m3, o3, b3⟩ := run_make_ints w2 w.heap.size n .i64 .i64 (by omega) p2.size
  have p3 := p2.trans (b3.mono p2.size)
  rw [m3]
  have B3 := hB.below b3
  have O1 := o1.keep b3
  have O2 := o2.keep b3
  clear hB o1 o2 m3
  go_wp2_with fail
  obtain ⟨w4, m4, o4, b4⟩ := run_make_ints w3 w.heap.size n .i64 .i64 (by omega) p3.size
  have p4 := p3.trans (b4.mono p3.size)
  rw [m4]
  have B4 := B3.below b4
  have I1 := Lib.hid (And.intro (O1.keep b4).ints ((O1.keep b4).off B4))
  have I2 := Lib.hid (And.intro (O2.keep b4).ints ((O2.keep b4).off B4))
  have I3 := Lib.hid (And.intro (o3.keep b4).ints ((o3.keep b4).off B4))
  have I4 := Lib.hid (And.intro o4.ints (o4.off B4))
  have R0 := Lib.hid (rightT_start n)
  clear B3 O1 O2 m4 o3 o4 p3 p2 b3 b4
  generalize toL n (fun _ => (0 : Int)) = zl at *
  generalize (Value.slice (some ⟨w2.heap.size, 0, none⟩) n n) = v3 at *
  generalize (Value.slice (some ⟨w3.heap.size, 0, none⟩) n n) = v4 at *
  go_wp2_with fail
  go_loopg [7, 8, 9] N (fun g s7 s8 s9 wr => ∃ (i : Nat) (B : Int) (pv cv : Value) (ll nl : List Int), i ≤ N ∧ g = N - i ∧ s9 = .int .i64 i ∧ (0 ≤ B ∧ B ≤ i ∧ rightT B ll nl = true) ∧ Blk wr tb [.int .i64 B, pv, cv] 54 ∧ (Ints wr pv ll ∧ Off pv tb) ∧ (Ints wr cv nl ∧ Off cv tb) ∧ (Ints wr s7 ll ∧ Off s7 tb) ∧ (Ints wr s8 nl ∧ Off s8 tb) ∧ Below w.heap.size w wr)
  case atStart => exact ⟨0, 0, pv, cv, zl, zl, Nat.zero_le _, rfl, rfl, ⟨by omega, by omega, R0.out⟩, B4, I1.out, I2.out, I3.out, I4.out, p4⟩
  case round =>
    obtain ⟨i, B, pv, cv, ll, nl, hi, rfl, rfl, hB, bt, i1, i2, i3, i4, q⟩ := hrel
    clear B4 I1 I2 I3 I4 R0 p4
    by_cases hlt : i < N
    · obtain rfl := HA.out (by omega)
      have hz2 : (i : Int) < (N : Int) := by omega
      have hw1 : IntKind.i64.wrap ((i : Int) + 1) = (i : Int) + 1 := Go.IntWalk.i64_in _ (by omega)
      have hw2 : IntKind.i64.wrap (B + 1) = B + 1 := Go.IntWalk.i64_in _ (by omega)
      obtain ⟨r1, r2, r3⟩ := HR.out i hlt
      have r2 : wr.cell? ⟨lb, lo + i, none⟩ = some (vv i) := (q.cell (p := ⟨lb, lo + i, none⟩) r1).trans r2
      have i5 := r3.keep q
      have o5 := r3.offLow (b := tb) hb5
      have r1 : lb < wr.heap.size := Nat.lt_of_lt_of_le r1 q.size
      generalize ls.getD i [] = el at *
      generalize vv i = ev at *
      clear r3
      obtain ⟨pa, pc, rfl⟩ := i1.1.shape
      obtain ⟨ca, cc, rfl⟩ := i2.1.shape
      obtain ⟨a7, c7, rfl⟩ := i3.1.shape
      obtain ⟨a8, c8, rfl⟩ := i4.1.shape
      obtain ⟨ea, ec, rfl⟩ := i5.shape
      have c0 := bt.cell 0; have c1 := bt.cell 1; have c2 := bt.cell 2; have nt := bt.lt
      simp only [List.getElem?_cons_zero, List.getElem?_cons_succ] at c0 c1 c2
      have CS := Lib.hid (fun W (hW : Below wr.heap.size wr W) => sstep_any (b := B) W (by omega) (i1.1.keep hW) (i2.1.keep hW) (i5.keep hW))
      have BT := Lib.hid bt
      have I1 := Lib.hid i1
      have I2 := Lib.hid i2
      have I3 := Lib.hid i3
      have I4 := Lib.hid i4
      have I5 := Lib.hid (And.intro i5 o5)
      have HB := Lib.hid hB
      clear bt i1 i2 i3 i4 i5 o5 hB
      have CF := Lib.hid (fun W (hW : Below wr.heap.size wr W) => forward_any W (I4.out.1.keep hW) (I5.out.1.keep hW))
      obtain ⟨⟨⟨S1, S2, S3⟩, S4⟩, hS⟩ : ∃ S, stepT B ll nl el = S := ⟨_, rfl⟩
      rw [hS] at CS
      have HS := Lib.hid hS
      dsimp only at CS
      clear hS
      go_wp2_with fail
      refine RV.wp_region_ghost (StD w wr (StU w.heap.size wr.heap.size S1 S2 S3 S4) (VU S1 S4 6) (TrU w.heap.size wr.heap.size (.int .i64 S1) S2 S3) 9 10) (by kernel_rfl) (by kernel_rfl) StD.loc (.begin _ q (by decide) (fun i u w' hi => StU.none u w' (by have hi : 12 ≤ i := hi; omega)) (fun i u hi => VU.none u (by have hi : 12 ≤ i := hi; omega))) ?_
      refine RV.lexg_val (fun _ => by rfl) ?_; apply Exists.intro; refine ⟨?_, ?_⟩; ((intro g L w' hU hT; have hT' := hT.upd (i := 0) (by decide) (fun _ _ => StU.none _ _ (by decide)) (fun _ => VU.none _ (by decide)); obtain ⟨hc, hf⟩ := bcell hT.ext; clear hT hU; go_simp; exact rfl)); simp only [Act.put, List.setIfInBounds_toArray, List.set_cons_zero, List.set_cons_succ]
      refine RV.lexg_val (fun _ => by rfl) ?_; apply Exists.intro; refine ⟨?_, ?_⟩; ((intro g L w' hU hT; have hT' := hT.upd (i := 1) (by decide) (fun _ _ => StU.none _ _ (by decide)) (fun _ => VU.none _ (by decide)); obtain ⟨hc, hf⟩ := bcell hT.ext; clear hT hU; go_simp; exact rfl)); simp only [Act.put, List.setIfInBounds_toArray, List.set_cons_zero, List.set_cons_succ]
      refine RV.lexg_val (fun _ => by rfl) ?_; apply Exists.intro; refine ⟨?_, ?_⟩; ((intro g L w' hU hT; have hT' := hT.upd (i := 2) (by decide) (fun _ _ => StU.none _ _ (by decide)) (fun _ => VU.none _ (by decide)); obtain ⟨hc, hf⟩ := bcell hT.ext; clear hT hU; go_simp; exact rfl)); simp only [Act.put, List.setIfInBounds_toArray, List.set_cons_zero, List.set_cons_succ]
      refine RV.lexg_val (fun _ => by rfl) ?_; apply Exists.intro; refine ⟨?_, ?_⟩; ((intro g L w' hU hT; have hT' := hT.upd (i := 3) (by decide) (fun _ _ => StU.none _ _ (by decide)) (fun _ => VU.none _ (by decide)); obtain ⟨hc, hf⟩ := bcell hT.ext; clear hT hU; go_simp; exact rfl)); simp only [Act.put, List.setIfInBounds_toArray, List.set_cons_zero, List.set_cons_succ]
      refine RV.lexg_val (fun _ => by rfl) ?_; apply Exists.intro; refine ⟨?_, ?_⟩; ((intro g L w' hU hT; have hT' := hT.upd (i := 4) (by decide) (fun _ _ => StU.none _ _ (by decide)) (fun _ => VU.none _ (by decide)); obtain ⟨hc, hf⟩ := bcell hT.ext; clear hT hU; go_simp; exact rfl)); simp only [Act.put, List.setIfInBounds_toArray, List.set_cons_zero, List.set_cons_succ]
      refine RV.lexg_new (fun _ => by rfl) ?_ ?_
      · intro g L w' hU hT
        have h6 := hU.closed.no (j := 6) (i := 5) rfl (by kernel_rfl) hU.not
        have h7 := hU.closed.no (j := 7) (i := 6) rfl (by kernel_rfl) h6
        have h10 := hU.closed.no (j := 10) (i := 7) rfl (by kernel_rfl) h7
        refine lx_call (f := 27) (args := #[.agg #[.int .i64 B, .slice pa ll.length pc, .slice ca nl.length cc], .slice ea el.length ec]) (w' := w') (by go_simp) ((CS.out _ hT.ext).mono ?_)
        rintro e w'' ⟨u1, u2, rfl, o1, o2, hb⟩
        exact ⟨_, rfl, hT.new (by decide) h10 hb (StU.keep _ _ _ _ _ _) ⟨fun _ => ⟨u1, u2, rfl, o1.base hT.bel.size, o2.base hT.bel.size⟩, fun h => absurd h (by decide), fun h => absurd h (by decide)⟩ (VU.none _ (by decide))⟩
      simp only [Act.put, List.setIfInBounds_toArray, List.set_cons_zero, List.set_cons_succ]
      refine RV.lexg_new (fun _ => by rfl) ?_ ?_
      · intro g L w' hU hT
        have h7 := hU.closed.no (j := 7) (i := 6) rfl (by kernel_rfl) hU.not
        have h10 := hU.closed.no (j := 10) (i := 7) rfl (by kernel_rfl) h7
        obtain ⟨u1, u2, e5, o1, o2⟩ := (hT.at_ h10 5 (hU.yes rfl (by kernel_rfl))).1 (.inl rfl)
        obtain ⟨b1, k1, m1, rfl⟩ := o1.shape
        obtain ⟨b2, k2, m2, rfl⟩ := o2.shape
        refine lx_ok (u := .tuple #[.agg #[.int .i64 S1, .slice b1 k1 m1, .slice b2 k2 m2], .int .i64 S4]) (w' := w') ?_ (hT.new (by decide) h10 (Below.refl _ _) (StU.keep _ _ _ _ _ _) ⟨fun _ => ⟨_, _, rfl, o1, o2⟩, fun h => absurd h (by decide), fun h => absurd h (by decide)⟩ (fun _ => ⟨_, _, _, _, _, _, rfl⟩))
        clear hT hU o1 o2
        rw [e5]
        go_simp
      simp only [Act.put, List.setIfInBounds_toArray, List.set_cons_zero, List.set_cons_succ]
      refine RV.lexg_new (fun _ => by rfl) ?_ ?_
      · intro g L w' hU hT
        have h10 := hU.closed.no (j := 10) (i := 7) rfl (by kernel_rfl) hU.not
        obtain ⟨u1, u2, e5, o1, o2⟩ := (hT.at_ h10 6 (hU.yes rfl (by kernel_rfl))).1 (.inr rfl)
        obtain ⟨b1, k1, m1, rfl⟩ := o1.shape
        obtain ⟨b2, k2, m2, rfl⟩ := o2.shape
        refine lx_ok (u := .agg #[.int .i64 S1, .slice b1 k1 m1, .slice b2 k2 m2]) (w' := w') ?_ (hT.new (by decide) h10 (Below.refl _ _) (StU.keep _ _ _ _ _ _) ⟨fun h => absurd h (by decide), fun _ => ⟨_, _, rfl, o1, o2⟩, fun h => absurd h (by decide)⟩ (VU.none _ (by decide)))
        clear hT hU o1 o2
        rw [e5]
        go_simp
      simp only [Act.put, List.setIfInBounds_toArray, List.set_cons_zero, List.set_cons_succ]
      refine RV.lexg_val (fun _ => by rfl) ?_; apply Exists.intro; refine ⟨?_, ?_⟩
      · intro g L w' hU hT
        have hT' := hT.upd (i := 8) (by decide) (fun _ _ => StU.none _ _ (by decide)) (fun _ => VU.none _ (by decide))
        obtain ⟨b1, k1, m1, b2, k2, m2, e6⟩ := hT.val 6 (by decide) (hU.yes rfl (by kernel_rfl)) rfl
        clear hT hU
        rw [e6]
        go_simp
        exact rfl
      simp only [Act.put, List.setIfInBounds_toArray, List.set_cons_zero, List.set_cons_succ]
      refine RV.lexg_new (fun _ => by rfl) ?_ ?_
      · intro g L w' hU hT
        have h10 := hU.closed.no (j := 10) (i := 9) rfl (by kernel_rfl) hU.not
        refine lx_ok (u := .pointer (some ⟨w'.heap.size, 0, none⟩)) (w' := w'.alloc (.cells #[.int .i64 0, .slice none 0 0, .slice none 0 0] 54)) ?_ (hT.new (by decide) h10 (bel_alloc1 _ _) (StU.keep _ _ _ _ _ _) ⟨fun h => absurd h (by decide), fun h => absurd h (by decide), fun _ => ⟨_, rfl, hT.bel.size, hT.ext.size, Blk.new [.int .i64 0, .slice none 0 0, .slice none 0 0] _ rfl⟩⟩ (VU.none _ (by decide)))
        clear hT hU
        go_simp
      simp only [Act.put, List.setIfInBounds_toArray, List.set_cons_zero, List.set_cons_succ]
      refine RV.lexg_op (fun _ => by rfl) ?_
      refine ⟨fun _ => undef, ?_, RV.known_const _ _, ?_⟩
      · intro g L w' hU hT
        obtain ⟨u1, u2, e7, o1, o2⟩ := (hT.at_ hU.not 7 (hU.yes rfl (by kernel_rfl))).2.1 rfl
        obtain ⟨b1, k1, m1, rfl⟩ := o1.shape
        obtain ⟨b2, k2, m2, rfl⟩ := o2.shape
        have l9 : L 9 = true := hU.yes rfl (by kernel_rfl)
        obtain ⟨ub, e9, hub, hx, hB⟩ := (hT.at_ hU.not 9 l9).2.2 rfl
        have hT' : StD w wr (StU w.heap.size wr.heap.size S1 S2 S3 S4) (VU S1 S4 6) (TrU w.heap.size wr.heap.size (.int .i64 S1) S2 S3) 9 10 g (upd L 10) (setAll w' ub 0 [.int .i64 S1, .slice b1 k1 m1, .slice b2 k2 m2]) := StD.store hT (by decide) l9 (setAll_below hub _ _ hT.bel) (setAll_below hx _ _ hT.ext) ⟨ub, e9, hx, trAt_store hB rfl o1 o2⟩
        have zc0 := hB.cell 0; have zf0 := hB.free 0; have zc1 := hB.cell 1; have zf1 := hB.free 1; have zc2 := hB.cell 2; have zf2 := hB.free 2
        simp only [List.getElem?_cons_zero, List.getElem?_cons_succ] at zc0 zc1 zc2
        clear hT hU o1 o2 hB
        rw [e7, e9]
        go_simp
        first | exact hT' | exact ⟨hT', rfl⟩
      simp only [Act.put]
      refine RV.lexg_val (fun _ => by rfl) ?_; apply Exists.intro; refine ⟨?_, ?_⟩; ((intro g L w' hU hT; have hT' := hT.upd (i := 11) (by decide) (fun _ _ => StU.none _ _ (by decide)) (fun _ => VU.none _ (by decide)); obtain ⟨hc, hf⟩ := bcell hT.ext; clear hT hU; go_simp; exact rfl)); simp only [Act.put, List.setIfInBounds_toArray, List.set_cons_zero, List.set_cons_succ]
      refine RV.lexg_nil ?_
      intro g w2 hT
      have p2 := hT.bel
      have q2 := hT.ext
      obtain ⟨_, ub, e9, hub, u1, u2, hB2, o1, o2⟩ := hT.fin rfl
      clear hT
      dsimp only
      rw [e9]
      clear e9 CS
      have hne : lb ≠ tb := by have := (HR.out i hlt).1; omega
      have hne2 : ub ≠ tb := by omega
      have y0 : w2.cell? ⟨lb, lo + i, none⟩ = some (.slice ea el.length ec) := (q2.cell (p := ⟨lb, lo + i, none⟩) r1).trans r2
      have r1 : lb < w2.heap.size := Nat.lt_of_lt_of_le r1 q2.size
      clear r2 c0 c1 c2
      cases hf : fwd nl el with
      | false =>
        rw [hf] at CF
        have hS := HS.out
        rw [stepT_no hf] at hS
        cases hS
        obtain ⟨b1, m1, rfl⟩ := o1.nilshape
        obtain ⟨b2, m2, rfl⟩ := o2.nilshape
        clear HS hf o1 o2
        go_wp2_with fail
        refine (CF.out _ q2).mono ?_
        rintro e w3 ⟨rfl, b3⟩
        have U : Blk w3 (ub) [.int .i64 0, .slice b1 0 m1, .slice b2 0 m2] 54 := hB2.below b3; have Uc0 : w3.cell? ⟨ub, 0, none⟩ = some (.int .i64 0) := U.cell 0; have Uc1 : w3.cell? ⟨ub, 1, none⟩ = some (.slice b1 0 m1) := U.cell 1; have Uc2 : w3.cell? ⟨ub, 2, none⟩ = some (.slice b2 0 m2) := U.cell 2; have Uf0 : w3.frozen? ⟨ub, 0, none⟩ = false := U.free 0; have Uf1 : w3.frozen? ⟨ub, 1, none⟩ = false := U.free 1; have Uf2 : w3.frozen? ⟨ub, 2, none⟩ = false := U.free 2; have Uz := U.lt
        have q3 : Below wr.heap.size wr w3 := q2.trans (b3.mono q2.size)
        have p3 := q.trans (q3.mono q.size)
        have B3 := BT.out.below q3
        have J1 := And.intro (I1.out.1.keep q3) I1.out.2
        have J2 := And.intro (I2.out.1.keep q3) I2.out.2
        have J3 := And.intro (I3.out.1.keep q3) I3.out.2
        have J4 := And.intro (I4.out.1.keep q3) I4.out.2
        have hB := HB.out
        clear b3 hB2 y0 r1 CF
        go_wp2_with fail
        go_roundg (N - (i + 1))
        case measure => omega
        case rel => exact ⟨i + 1, B, _, _, ll, nl, hlt, rfl, (by first | rfl | simp), ⟨hB.1, by omega, hB.2.2⟩, B3, J1, J2, J3, J4, p3⟩
      | true =>
        rw [hf] at CF
        have hB := HB.out
        have hS := HS.out
        rw [stepT_yes hB.2.2 (by omega) hf] at hS
        cases hS
        obtain ⟨b1, k1, m1, rfl⟩ := o1.shape
        obtain ⟨b2, k2, m2, rfl⟩ := o2.shape
        have HN := Lib.hid (rightT_next hB.2.2 hf)
        have hE1 : (B + 1 != B + 1) = false := by simp
        have hB0 := hB.1
        have hBi := hB.2.1
        clear HS hf
        go_wp2_with fail
        refine (CF.out _ q2).mono ?_
        rintro e w3 ⟨rfl, b3⟩
        have U : Blk w3 (ub) [.int .i64 (B + 1), .slice b1 k1 m1, .slice b2 k2 m2] 54 := hB2.below b3; have Uc0 : w3.cell? ⟨ub, 0, none⟩ = some (.int .i64 (B + 1)) := U.cell 0; have Uc1 : w3.cell? ⟨ub, 1, none⟩ = some (.slice b1 k1 m1) := U.cell 1; have Uc2 : w3.cell? ⟨ub, 2, none⟩ = some (.slice b2 k2 m2) := U.cell 2; have Uf0 : w3.frozen? ⟨ub, 0, none⟩ = false := U.free 0; have Uf1 : w3.frozen? ⟨ub, 1, none⟩ = false := U.free 1; have Uf2 : w3.frozen? ⟨ub, 2, none⟩ = false := U.free 2; have Uz := U.lt
        have q3 : Below wr.heap.size wr w3 := q2.trans (b3.mono q2.size)
        have p3 := q.trans (q3.mono q.size)
        have T : Blk w3 (tb) [.int .i64 B, .slice pa ll.length pc, .slice ca nl.length cc] 54 := BT.out.below q3; have Tc0 : w3.cell? ⟨tb, 0, none⟩ = some (.int .i64 B) := T.cell 0; have Tc1 : w3.cell? ⟨tb, 1, none⟩ = some (.slice pa ll.length pc) := T.cell 1; have Tc2 : w3.cell? ⟨tb, 2, none⟩ = some (.slice ca nl.length cc) := T.cell 2; have Tf0 : w3.frozen? ⟨tb, 0, none⟩ = false := T.free 0; have Tf1 : w3.frozen? ⟨tb, 1, none⟩ = false := T.free 1; have Tf2 : w3.frozen? ⟨tb, 2, none⟩ = false := T.free 2; have Tz := T.lt
        have y0 : w3.cell? ⟨lb, lo + i, none⟩ = some (.slice ea el.length ec) := (b3.cell (p := ⟨lb, lo + i, none⟩) r1).trans y0
        have r1 : lb < w3.heap.size := Nat.lt_of_lt_of_le r1 b3.size
        have O1 := o1.keep b3
        have O2 := o2.keep b3
        have up := setAll_upd tb [.int .i64 (B + 1), .slice b1 k1 m1, .slice b2 k2 m2] 0 w3
        have J1 := Lib.hid (O1.ints.upd (O1.off T) up)
        have J2 := Lib.hid (O2.ints.upd (O2.off T) up)
        have f1 := Lib.hid (O1.off T)
        have f2 := Lib.hid (O2.off T)
        have J4 := Lib.hid ((I4.out.1.keep q3).upd I4.out.2 up)
        have J5 := Lib.hid ((I5.out.1.keep q3).upd I5.out.2 up)
        have T4 : Hid (Blk (setAll w3 tb 0 [.int .i64 (B + 1), .slice b1 k1 m1, .slice b2 k2 m2]) tb [.int .i64 (B + 1), .slice b1 k1 m1, .slice b2 k2 m2] 54) := Lib.hid (Blk.setAll _ _ [] T rfl)
        have p4 := Lib.hid (setAll_below hb5 [.int .i64 (B + 1), .slice b1 k1 m1, .slice b2 k2 m2] 0 p3)
        clear b3 hB2 CF o1 o2 O1 O2 up BT I1 I2 I3 q2 p2 q3 T
        have I8 := Lib.hid I4.out.2
        have I9 := Lib.hid I5.out.2
        clear I4 I5 hB
        go_wp2_with fail
        have hC1 := Lib.hid (fun W (hW : Below (setAll w3 tb 0 [.int .i64 (B + 1), .slice b1 k1 m1, .slice b2 k2 m2]).heap.size (setAll w3 tb 0 [.int .i64 (B + 1), .slice b1 k1 m1, .slice b2 k2 m2]) W) m => sat_any (b := B + 1) (m := m) W (by omega) (J1.out.keep hW) (J2.out.keep hW))
        have A1 : atT (B + 1) nl el (B + 1) = (el, true) := if_pos rfl
        have A2 : atT (B + 1) nl el B = (nl, true) := by unfold atT; rw [if_neg (by omega), if_pos (by omega)]
        have A3 : atT (B + 1) nl el (B + 2) = ([], false) := by unfold atT; rw [if_neg (by omega), if_neg (by omega)]
        obtain ⟨W4, hW4⟩ : ∃ W4, setAll w3 tb 0 [.int .i64 (B + 1), .slice b1 k1 m1, .slice b2 k2 m2] = W4 := ⟨_, rfl⟩
        rw [hW4] at J1 J2 J4 J5 T4 p4 hC1
        have hW5 : ((w3.setCell ⟨tb, 0, none⟩ (.int .i64 (B + 1))).setCell ⟨tb, 1, none⟩ (.slice b1 k1 m1)).setCell ⟨tb, 2, none⟩ (.slice b2 k2 m2) = W4 := hW4
        rw [hW5]
        have CA1 := Lib.hid (fun W hW => A1 ▸ hC1.out W hW (B + 1))
        have CA2 := Lib.hid (fun W hW => A2 ▸ hC1.out W hW B)
        have CA3 := Lib.hid (fun W hW => A3 ▸ hC1.out W hW (B + 2))
        have hw3 : IntKind.i64.wrap (B + 1 - 1) = B := (Go.IntWalk.i64_in _ (by omega)).trans (by omega)
        have hw4 : IntKind.i64.wrap (B + 1 + 1) = B + 2 := (Go.IntWalk.i64_in _ (by omega)).trans (by omega)
        clear hW4 hW5 A1 A2 A3 hC1 y0 r1 U Uc0 Uc1 Uc2 Uf0 Uf1 Uf2 Uz Tc0 Tc1 Tc2 Tf0 Tf1 Tf2 Tz p3 hne hne2
        refine (CA1.out _ (Below.refl _ _)).mono ?_
        rintro e w5 ⟨r5, rfl, o5, b5⟩
        have T : Blk w5 (tb) [.int .i64 (B + 1), .slice b1 k1 m1, .slice b2 k2 m2] 54 := T4.out.below b5; have Tc0 : w5.cell? ⟨tb, 0, none⟩ = some (.int .i64 (B + 1)) := T.cell 0; have Tc1 : w5.cell? ⟨tb, 1, none⟩ = some (.slice b1 k1 m1) := T.cell 1; have Tc2 : w5.cell? ⟨tb, 2, none⟩ = some (.slice b2 k2 m2) := T.cell 2; have Tf0 : w5.frozen? ⟨tb, 0, none⟩ = false := T.free 0; have Tf1 : w5.frozen? ⟨tb, 1, none⟩ = false := T.free 1; have Tf2 : w5.frozen? ⟨tb, 2, none⟩ = false := T.free 2; have Tz := T.lt
        have q5 := Lib.hid b5
        have K5 := Lib.hid o5.ints
        clear b5 o5 CA1 T4
        go_wp2_with fail
        refine (CA2.out _ q5.out).mono ?_
        rintro e w6 ⟨r6, rfl, o6, b6⟩
        have U : Blk w6 (tb) [.int .i64 (B + 1), .slice b1 k1 m1, .slice b2 k2 m2] 54 := T.below b6; have Uc0 : w6.cell? ⟨tb, 0, none⟩ = some (.int .i64 (B + 1)) := U.cell 0; have Uc1 : w6.cell? ⟨tb, 1, none⟩ = some (.slice b1 k1 m1) := U.cell 1; have Uc2 : w6.cell? ⟨tb, 2, none⟩ = some (.slice b2 k2 m2) := U.cell 2; have Uf0 : w6.frozen? ⟨tb, 0, none⟩ = false := U.free 0; have Uf1 : w6.frozen? ⟨tb, 1, none⟩ = false := U.free 1; have Uf2 : w6.frozen? ⟨tb, 2, none⟩ = false := U.free 2; have Uz := U.lt
        have q6 := Lib.hid (q5.out.trans (b6.mono q5.out.size))
        have K6 := Lib.hid (K5.out.keep b6)
        have L6 := Lib.hid o6.ints
        clear b6 o6 CA2 T Tc0 Tc1 Tc2 Tf0 Tf1 Tf2 Tz K5 q5
        go_wp2_with fail
        refine (CA3.out _ q6.out).mono ?_
        rintro e w7 ⟨r7, rfl, o7, b7⟩
        have T7 := U.below b7
        have q7 := Lib.hid (q6.out.trans (b7.mono q6.out.size))
        have C8 := Lib.hid (ints_true w7 (K6.out.keep b7) (J5.out.keep q7.out))
        have C9 := Lib.hid (fun W (hW : Below w7.heap.size w7 W) => ints_true W ((L6.out.keep b7).keep hW) ((J4.out.keep q7.out).keep hW))
        clear b7 o7 CA3 U Uc0 Uc1 Uc2 Uf0 Uf1 Uf2 Uz K6 L6 q6
        go_wp2_with fail
        refine C8.out.mono ?_
        rintro e w8 ⟨rfl, b8⟩
        have q8 := Lib.hid (q7.out.trans (b8.mono q7.out.size))
        have C9' := Lib.hid (C9.out w8 b8)
        have T8 := T7.below b8
        clear C8 C9 b8 T7 q7
        go_wp2_with fail
        refine C9'.out.mono ?_
        rintro e w9 ⟨rfl, b9⟩
        have q9 := q8.out.trans (b9.mono q8.out.size)
        have T9 := T8.below b9
        have p9 := p4.out.trans (q9.mono p4.out.size)
        have M1 := And.intro (J1.out.keep q9) f1.out
        have M2 := And.intro (J2.out.keep q9) f2.out
        have M4 := And.intro (J4.out.keep q9) I8.out
        have M5 := And.intro (J5.out.keep q9) I9.out
        have hR := HN.out
        clear b9 C9' T8 q8 J1 J2 J4 J5 f1 f2 I8 I9 HN p4 q9
        go_wp2_with fail
        go_roundg (N - (i + 1))
        case measure => omega
        case rel => exact ⟨i + 1, B + 1, _, _, nl, el, hlt, rfl, (by first | rfl | simp), ⟨by omega, by omega, hR⟩, T9, M1, M2, M4, M5, p9⟩
    · have hz2 : ¬ ((i : Int) < (N : Int)) := by omega
      go_wp2_with fail
      go_ret
      exact ⟨rfl, q⟩
end Go.Proofs.Ytbckfoldjlgabaa
