/- WALKS of law07: the document's Step, At of both, triples; SpoutTriples. -/
import Derived.Test.YtbckfoldjlgabaaSqC
namespace Go.Proofs.Ytbckfoldjlgabaa
open Go.RowKit
open Fl (nan key canon)
set_option maxRecDepth 100000 in
set_option maxHeartbeats 8000000 in
theorem rtstep_any {b : Int} {pv cv tv : Value} {pl cl to : List Int} (w : World) (hb : b ≤ 9223372036854775807) (hp : Ints w pv pl) (hc : Ints w cv cl) (ht : Ints w tv to) :
    Calls Try.prog 28 #[.agg #[.int .i64 b, pv, cv], tv] w fun e w' => ∃ r1 r2, e = .returned (.tuple #[.agg #[.int .i64 (stepT b pl cl to).1.1, r1, r2], .int .i64 (stepT b pl cl to).2]) ∧ OwnI w' w.heap.size r1 (stepT b pl cl to).1.2.1 ∧ OwnI w' w.heap.size r2 (stepT b pl cl to).1.2.2 ∧ Below w.heap.size w w' := by
  have CR := Lib.hid (fun W (hW : Below w.heap.size w W) => rright_any (b := b) W (hp.keep hW) (hc.keep hW))
  have CF := Lib.hid (fun W (hW : Below w.heap.size w W) => rforward_any W (hc.keep hW) (ht.keep hW))
  have C1 := Lib.hid (fun W (hW : Below w.heap.size w W) => copied_any W (hc.keep hW))
  have C2 := Lib.hid (fun W (hW : Below w.heap.size w W) => copied_any W (ht.keep hW))
  have HB := Lib.hid (fun h : rightT b pl cl = true => (rightT_len h).1)
  obtain ⟨pa, pn, pcap, _, _, _, rfl, -⟩ := hp
  obtain ⟨ca, cn, ccap, _, _, _, rfl, -⟩ := hc
  obtain ⟨ta, tn, tcap, _, _, _, rfl, -⟩ := ht
  unfold stepT
  cases hr : rightT b pl cl with
  | false =>
    rw [hr] at CR
    rw [if_neg (fun h => by cases h.1)]
    clear hr HB
    go_enter Try.func28, Try.ntmps28
    go_wp2_with fail
    refine (CR.out _ (by repeat' (first | with_reducible exact Below.refl _ _ | with_reducible assumption | with_reducible refine bel_drew ?_ | with_reducible refine bel_alloc ?_ _ | with_reducible refine bel_set ?_ ?_ _ | with_reducible refine bel_call ?_ (by assumption) | (dsimp only; omega) | (simp; done) | (simp; omega)))).mono ?_
    rintro e w1 ⟨rfl, b1⟩
    have p1 : Below w.heap.size w w1 := (by repeat' (first | with_reducible exact Below.refl _ _ | with_reducible assumption | with_reducible refine bel_drew ?_ | with_reducible refine bel_alloc ?_ _ | with_reducible refine bel_set ?_ ?_ _ | with_reducible refine bel_call ?_ (by assumption) | (dsimp only; omega) | (simp; done) | (simp; omega)))
    have B : Blk w1 (w.heap.size + 1) [.int .i64 0, .slice none 0 0, .slice none 0 0] 54 := Blk.below (by repeat' (first | with_reducible assumption | (show (_ : List Value) = _; rfl) | with_reducible exact Blk.new _ _ rfl | (with_reducible refine Blk.new _ _ ?_; simp; done) | with_reducible apply Blk.set_eq | with_reducible apply Blk.other | with_reducible apply Blk.alloc | with_reducible apply Blk.drew | (simp; done) | (simp; omega))) b1; have Bc0 : w1.cell? ⟨w.heap.size + 1, 0, none⟩ = some (.int .i64 0) := B.cell 0; have Bc1 : w1.cell? ⟨w.heap.size + 1, 1, none⟩ = some (.slice none 0 0) := B.cell 1; have Bc2 : w1.cell? ⟨w.heap.size + 1, 2, none⟩ = some (.slice none 0 0) := B.cell 2; have Bf0 : w1.frozen? ⟨w.heap.size + 1, 0, none⟩ = false := B.free 0; have Bf1 : w1.frozen? ⟨w.heap.size + 1, 1, none⟩ = false := B.free 1; have Bf2 : w1.frozen? ⟨w.heap.size + 1, 2, none⟩ = false := B.free 2; have Bz := B.lt
    clear b1
    go_wp2_with fail
    refine ret_cell_tmp [.int .i64 0, .slice none 0 0, .slice none 0 0] Try.results28 rfl (Try.isAgg54 _) (Try.sizeOf54 _) (t := 54) (by repeat' (first | with_reducible assumption | (show (_ : List Value) = _; rfl) | with_reducible exact Blk.new _ _ rfl | (with_reducible refine Blk.new _ _ ?_; simp; done) | with_reducible apply Blk.set_eq | with_reducible apply Blk.other | with_reducible apply Blk.alloc | with_reducible apply Blk.drew | (simp; done) | (simp; omega))) rfl ?_
    exact ⟨_, _, rfl, OwnI.nil _ _, OwnI.nil _ _, (by repeat' (first | with_reducible exact Below.refl _ _ | with_reducible assumption | with_reducible refine bel_drew ?_ | with_reducible refine bel_alloc ?_ _ | with_reducible refine bel_set ?_ ?_ _ | with_reducible refine bel_call ?_ (by assumption) | (dsimp only; omega) | (simp; done) | (simp; omega)))⟩
  | true =>
    rw [hr] at CR
    have hb0 := HB.out hr
    clear hr HB
    cases hf : fwd cl to with
    | false =>
      rw [hf] at CF
      rw [if_neg (fun h => by cases h.2)]
      clear hf
      go_enter Try.func28, Try.ntmps28
      go_wp2_with fail
      refine (CR.out _ (by repeat' (first | with_reducible exact Below.refl _ _ | with_reducible assumption | with_reducible refine bel_drew ?_ | with_reducible refine bel_alloc ?_ _ | with_reducible refine bel_set ?_ ?_ _ | with_reducible refine bel_call ?_ (by assumption) | (dsimp only; omega) | (simp; done) | (simp; omega)))).mono ?_
      rintro e w1 ⟨rfl, b1⟩
      have p1 : Below w.heap.size w w1 := (by repeat' (first | with_reducible exact Below.refl _ _ | with_reducible assumption | with_reducible refine bel_drew ?_ | with_reducible refine bel_alloc ?_ _ | with_reducible refine bel_set ?_ ?_ _ | with_reducible refine bel_call ?_ (by assumption) | (dsimp only; omega) | (simp; done) | (simp; omega)))
      have A : Blk w1 (w.heap.size) [.int .i64 b, .slice pa pn pcap, .slice ca cn ccap] 54 := Blk.below (by repeat' (first | with_reducible assumption | (show (_ : List Value) = _; rfl) | with_reducible exact Blk.new _ _ rfl | (with_reducible refine Blk.new _ _ ?_; simp; done) | with_reducible apply Blk.set_eq | with_reducible apply Blk.other | with_reducible apply Blk.alloc | with_reducible apply Blk.drew | (simp; done) | (simp; omega))) b1; have Ac0 : w1.cell? ⟨w.heap.size, 0, none⟩ = some (.int .i64 b) := A.cell 0; have Ac1 : w1.cell? ⟨w.heap.size, 1, none⟩ = some (.slice pa pn pcap) := A.cell 1; have Ac2 : w1.cell? ⟨w.heap.size, 2, none⟩ = some (.slice ca cn ccap) := A.cell 2; have Af0 : w1.frozen? ⟨w.heap.size, 0, none⟩ = false := A.free 0; have Af1 : w1.frozen? ⟨w.heap.size, 1, none⟩ = false := A.free 1; have Af2 : w1.frozen? ⟨w.heap.size, 2, none⟩ = false := A.free 2; have Az := A.lt
      have B : Blk w1 (w.heap.size + 1) [.int .i64 0, .slice none 0 0, .slice none 0 0] 54 := Blk.below (by repeat' (first | with_reducible assumption | (show (_ : List Value) = _; rfl) | with_reducible exact Blk.new _ _ rfl | (with_reducible refine Blk.new _ _ ?_; simp; done) | with_reducible apply Blk.set_eq | with_reducible apply Blk.other | with_reducible apply Blk.alloc | with_reducible apply Blk.drew | (simp; done) | (simp; omega))) b1
      clear b1
      go_wp2_with fail
      refine (CF.out _ p1).mono ?_
      rintro e w2 ⟨rfl, b2⟩
      have p2 : Below w.heap.size w w2 := p1.trans (b2.mono p1.size)
      have D : Blk w2 (w.heap.size + 1) [.int .i64 0, .slice none 0 0, .slice none 0 0] 54 := B.below b2; have Dc0 : w2.cell? ⟨w.heap.size + 1, 0, none⟩ = some (.int .i64 0) := D.cell 0; have Dc1 : w2.cell? ⟨w.heap.size + 1, 1, none⟩ = some (.slice none 0 0) := D.cell 1; have Dc2 : w2.cell? ⟨w.heap.size + 1, 2, none⟩ = some (.slice none 0 0) := D.cell 2; have Df0 : w2.frozen? ⟨w.heap.size + 1, 0, none⟩ = false := D.free 0; have Df1 : w2.frozen? ⟨w.heap.size + 1, 1, none⟩ = false := D.free 1; have Df2 : w2.frozen? ⟨w.heap.size + 1, 2, none⟩ = false := D.free 2; have Dz := D.lt
      clear b2
      go_wp2_with fail
      refine ret_cell_tmp [.int .i64 0, .slice none 0 0, .slice none 0 0] Try.results28 rfl (Try.isAgg54 _) (Try.sizeOf54 _) (t := 54) (by repeat' (first | with_reducible assumption | (show (_ : List Value) = _; rfl) | with_reducible exact Blk.new _ _ rfl | (with_reducible refine Blk.new _ _ ?_; simp; done) | with_reducible apply Blk.set_eq | with_reducible apply Blk.other | with_reducible apply Blk.alloc | with_reducible apply Blk.drew | (simp; done) | (simp; omega))) rfl ?_
      exact ⟨_, _, rfl, OwnI.nil _ _, OwnI.nil _ _, (by repeat' (first | with_reducible exact Below.refl _ _ | with_reducible assumption | with_reducible refine bel_drew ?_ | with_reducible refine bel_alloc ?_ _ | with_reducible refine bel_set ?_ ?_ _ | with_reducible refine bel_call ?_ (by assumption) | (dsimp only; omega) | (simp; done) | (simp; omega)))⟩
    | true =>
      rw [hf] at CF
      rw [if_pos ⟨rfl, rfl⟩]
      clear hf
      by_cases hm : 1099511627776 ≤ b
      · rw [if_pos hm]
        go_enter Try.func28, Try.ntmps28
        go_wp2_with fail
        refine (CR.out _ (by repeat' (first | with_reducible exact Below.refl _ _ | with_reducible assumption | with_reducible refine bel_drew ?_ | with_reducible refine bel_alloc ?_ _ | with_reducible refine bel_set ?_ ?_ _ | with_reducible refine bel_call ?_ (by assumption) | (dsimp only; omega) | (simp; done) | (simp; omega)))).mono ?_
        rintro e w1 ⟨rfl, b1⟩
        have p1 : Below w.heap.size w w1 := (by repeat' (first | with_reducible exact Below.refl _ _ | with_reducible assumption | with_reducible refine bel_drew ?_ | with_reducible refine bel_alloc ?_ _ | with_reducible refine bel_set ?_ ?_ _ | with_reducible refine bel_call ?_ (by assumption) | (dsimp only; omega) | (simp; done) | (simp; omega)))
        have A : Blk w1 (w.heap.size) [.int .i64 b, .slice pa pn pcap, .slice ca cn ccap] 54 := Blk.below (by repeat' (first | with_reducible assumption | (show (_ : List Value) = _; rfl) | with_reducible exact Blk.new _ _ rfl | (with_reducible refine Blk.new _ _ ?_; simp; done) | with_reducible apply Blk.set_eq | with_reducible apply Blk.other | with_reducible apply Blk.alloc | with_reducible apply Blk.drew | (simp; done) | (simp; omega))) b1; have Ac0 : w1.cell? ⟨w.heap.size, 0, none⟩ = some (.int .i64 b) := A.cell 0; have Ac1 : w1.cell? ⟨w.heap.size, 1, none⟩ = some (.slice pa pn pcap) := A.cell 1; have Ac2 : w1.cell? ⟨w.heap.size, 2, none⟩ = some (.slice ca cn ccap) := A.cell 2; have Af0 : w1.frozen? ⟨w.heap.size, 0, none⟩ = false := A.free 0; have Af1 : w1.frozen? ⟨w.heap.size, 1, none⟩ = false := A.free 1; have Af2 : w1.frozen? ⟨w.heap.size, 2, none⟩ = false := A.free 2; have Az := A.lt
        have B : Blk w1 (w.heap.size + 1) [.int .i64 0, .slice none 0 0, .slice none 0 0] 54 := Blk.below (by repeat' (first | with_reducible assumption | (show (_ : List Value) = _; rfl) | with_reducible exact Blk.new _ _ rfl | (with_reducible refine Blk.new _ _ ?_; simp; done) | with_reducible apply Blk.set_eq | with_reducible apply Blk.other | with_reducible apply Blk.alloc | with_reducible apply Blk.drew | (simp; done) | (simp; omega))) b1
        clear b1
        go_wp2_with fail
        refine (CF.out _ p1).mono ?_
        rintro e w2 ⟨rfl, b2⟩
        have p2 : Below w.heap.size w w2 := p1.trans (b2.mono p1.size)
        have E : Blk w2 (w.heap.size) [.int .i64 b, .slice pa pn pcap, .slice ca cn ccap] 54 := A.below b2; have Ec0 : w2.cell? ⟨w.heap.size, 0, none⟩ = some (.int .i64 b) := E.cell 0; have Ec1 : w2.cell? ⟨w.heap.size, 1, none⟩ = some (.slice pa pn pcap) := E.cell 1; have Ec2 : w2.cell? ⟨w.heap.size, 2, none⟩ = some (.slice ca cn ccap) := E.cell 2; have Ef0 : w2.frozen? ⟨w.heap.size, 0, none⟩ = false := E.free 0; have Ef1 : w2.frozen? ⟨w.heap.size, 1, none⟩ = false := E.free 1; have Ef2 : w2.frozen? ⟨w.heap.size, 2, none⟩ = false := E.free 2; have Ez := E.lt
        have D : Blk w2 (w.heap.size + 1) [.int .i64 0, .slice none 0 0, .slice none 0 0] 54 := B.below b2; have Dc0 : w2.cell? ⟨w.heap.size + 1, 0, none⟩ = some (.int .i64 0) := D.cell 0; have Dc1 : w2.cell? ⟨w.heap.size + 1, 1, none⟩ = some (.slice none 0 0) := D.cell 1; have Dc2 : w2.cell? ⟨w.heap.size + 1, 2, none⟩ = some (.slice none 0 0) := D.cell 2; have Df0 : w2.frozen? ⟨w.heap.size + 1, 0, none⟩ = false := D.free 0; have Df1 : w2.frozen? ⟨w.heap.size + 1, 1, none⟩ = false := D.free 1; have Df2 : w2.frozen? ⟨w.heap.size + 1, 2, none⟩ = false := D.free 2; have Dz := D.lt
        clear b2 A B Ac0 Ac1 Ac2
        go_wp2_with fail
        refine ret_cell_tmp [.int .i64 0, .slice none 0 0, .slice none 0 0] Try.results28 rfl (Try.isAgg54 _) (Try.sizeOf54 _) (t := 54) (by repeat' (first | with_reducible assumption | (show (_ : List Value) = _; rfl) | with_reducible exact Blk.new _ _ rfl | (with_reducible refine Blk.new _ _ ?_; simp; done) | with_reducible apply Blk.set_eq | with_reducible apply Blk.other | with_reducible apply Blk.alloc | with_reducible apply Blk.drew | (simp; done) | (simp; omega))) rfl ?_
        exact ⟨_, _, rfl, OwnI.nil _ _, OwnI.nil _ _, (by repeat' (first | with_reducible exact Below.refl _ _ | with_reducible assumption | with_reducible refine bel_drew ?_ | with_reducible refine bel_alloc ?_ _ | with_reducible refine bel_set ?_ ?_ _ | with_reducible refine bel_call ?_ (by assumption) | (dsimp only; omega) | (simp; done) | (simp; omega)))⟩
      · rw [if_neg hm]
        have hw1 : IntKind.i64.wrap (b + 1) = b + 1 := Go.IntWalk.i64_in _ (by omega)
        go_enter Try.func28, Try.ntmps28
        go_wp2_with fail
        refine (CR.out _ (by repeat' (first | with_reducible exact Below.refl _ _ | with_reducible assumption | with_reducible refine bel_drew ?_ | with_reducible refine bel_alloc ?_ _ | with_reducible refine bel_set ?_ ?_ _ | with_reducible refine bel_call ?_ (by assumption) | (dsimp only; omega) | (simp; done) | (simp; omega)))).mono ?_
        rintro e w1 ⟨rfl, b1⟩
        have p1 : Below w.heap.size w w1 := (by repeat' (first | with_reducible exact Below.refl _ _ | with_reducible assumption | with_reducible refine bel_drew ?_ | with_reducible refine bel_alloc ?_ _ | with_reducible refine bel_set ?_ ?_ _ | with_reducible refine bel_call ?_ (by assumption) | (dsimp only; omega) | (simp; done) | (simp; omega)))
        have A : Blk w1 (w.heap.size) [.int .i64 b, .slice pa pn pcap, .slice ca cn ccap] 54 := Blk.below (by repeat' (first | with_reducible assumption | (show (_ : List Value) = _; rfl) | with_reducible exact Blk.new _ _ rfl | (with_reducible refine Blk.new _ _ ?_; simp; done) | with_reducible apply Blk.set_eq | with_reducible apply Blk.other | with_reducible apply Blk.alloc | with_reducible apply Blk.drew | (simp; done) | (simp; omega))) b1; have Ac0 : w1.cell? ⟨w.heap.size, 0, none⟩ = some (.int .i64 b) := A.cell 0; have Ac1 : w1.cell? ⟨w.heap.size, 1, none⟩ = some (.slice pa pn pcap) := A.cell 1; have Ac2 : w1.cell? ⟨w.heap.size, 2, none⟩ = some (.slice ca cn ccap) := A.cell 2; have Af0 : w1.frozen? ⟨w.heap.size, 0, none⟩ = false := A.free 0; have Af1 : w1.frozen? ⟨w.heap.size, 1, none⟩ = false := A.free 1; have Af2 : w1.frozen? ⟨w.heap.size, 2, none⟩ = false := A.free 2; have Az := A.lt
        have B : Blk w1 (w.heap.size + 1) [.int .i64 0, .slice none 0 0, .slice none 0 0] 54 := Blk.below (by repeat' (first | with_reducible assumption | (show (_ : List Value) = _; rfl) | with_reducible exact Blk.new _ _ rfl | (with_reducible refine Blk.new _ _ ?_; simp; done) | with_reducible apply Blk.set_eq | with_reducible apply Blk.other | with_reducible apply Blk.alloc | with_reducible apply Blk.drew | (simp; done) | (simp; omega))) b1
        clear b1
        go_wp2_with fail
        refine (CF.out _ p1).mono ?_
        rintro e w2 ⟨rfl, b2⟩
        have p2 : Below w.heap.size w w2 := p1.trans (b2.mono p1.size)
        have E : Blk w2 (w.heap.size) [.int .i64 b, .slice pa pn pcap, .slice ca cn ccap] 54 := A.below b2; have Ec0 : w2.cell? ⟨w.heap.size, 0, none⟩ = some (.int .i64 b) := E.cell 0; have Ec1 : w2.cell? ⟨w.heap.size, 1, none⟩ = some (.slice pa pn pcap) := E.cell 1; have Ec2 : w2.cell? ⟨w.heap.size, 2, none⟩ = some (.slice ca cn ccap) := E.cell 2; have Ef0 : w2.frozen? ⟨w.heap.size, 0, none⟩ = false := E.free 0; have Ef1 : w2.frozen? ⟨w.heap.size, 1, none⟩ = false := E.free 1; have Ef2 : w2.frozen? ⟨w.heap.size, 2, none⟩ = false := E.free 2; have Ez := E.lt
        have D := B.below b2
        clear b2 A B Ac0 Ac1 Ac2
        go_wp2_with fail
        refine RV.wp_region_ghost (StC w w2 (StS w.heap.size 5 7 8 (.int .i64 (b + 1)) cl to) (TrAt w.heap.size (w.heap.size + 1) (.int .i64 (b + 1)) cl to) 9) (by kernel_rfl) (by kernel_rfl) StC.loc (.begin _ p2 (by decide) (fun i u w' hi => ⟨fun h => absurd hi (by subst h; decide), fun h => absurd hi (by subst h; decide), fun h => absurd hi (by subst h; decide)⟩)) ?_
        refine RV.lexg_val (fun _ => by rfl) ?_; apply Exists.intro; refine ⟨?_, ?_⟩; ((intro g L w' hU hT; have hT' := hT.upd (i := 0) (by decide) (fun _ _ => ⟨fun h => absurd h (by decide), fun h => absurd h (by decide), fun h => absurd h (by decide)⟩); clear hT hU; go_simp; exact rfl)); simp only [Act.put, List.setIfInBounds_toArray, List.set_cons_zero, List.set_cons_succ]
        refine RV.lexg_val (fun _ => by rfl) ?_; apply Exists.intro; refine ⟨?_, ?_⟩; ((intro g L w' hU hT; have hT' := hT.upd (i := 1) (by decide) (fun _ _ => ⟨fun h => absurd h (by decide), fun h => absurd h (by decide), fun h => absurd h (by decide)⟩); have hs2 := hU.closed.no (j := 2) (i := 1) rfl (by kernel_rfl) hU.not; have hs8 := hU.closed.no (j := 8) (i := 2) rfl (by kernel_rfl) hs2; have hs9 := hU.closed.no (j := 9) (i := 8) rfl (by kernel_rfl) hs8; obtain ⟨hc, hf⟩ := bcell (hT.ext hs9); clear hT hU hs2 hs8 hs9; go_simp; exact rfl)); simp only [Act.put, List.setIfInBounds_toArray, List.set_cons_zero, List.set_cons_succ]
        refine RV.lexg_val (fun _ => by rfl) ?_; apply Exists.intro; refine ⟨?_, ?_⟩; ((intro g L w' hU hT; have hT' := hT.upd (i := 2) (by decide) (fun _ _ => ⟨fun h => absurd h (by decide), fun h => absurd h (by decide), fun h => absurd h (by decide)⟩); clear hT hU; go_simp; exact rfl)); simp only [Act.put, List.setIfInBounds_toArray, List.set_cons_zero, List.set_cons_succ]
        refine RV.lexg_val (fun _ => by rfl) ?_; apply Exists.intro; refine ⟨?_, ?_⟩; ((intro g L w' hU hT; have hT' := hT.upd (i := 3) (by decide) (fun _ _ => ⟨fun h => absurd h (by decide), fun h => absurd h (by decide), fun h => absurd h (by decide)⟩); clear hT hU; go_simp; exact rfl)); simp only [Act.put, List.setIfInBounds_toArray, List.set_cons_zero, List.set_cons_succ]
        refine RV.lexg_val (fun _ => by rfl) ?_; apply Exists.intro; refine ⟨?_, ?_⟩; ((intro g L w' hU hT; have hT' := hT.upd (i := 4) (by decide) (fun _ _ => ⟨fun h => absurd h (by decide), fun h => absurd h (by decide), fun h => absurd h (by decide)⟩); have hs5 := hU.closed.no (j := 5) (i := 4) rfl (by kernel_rfl) hU.not; have hs8 := hU.closed.no (j := 8) (i := 5) rfl (by kernel_rfl) hs5; have hs9 := hU.closed.no (j := 9) (i := 8) rfl (by kernel_rfl) hs8; obtain ⟨hc, hf⟩ := bcell (hT.ext hs9); clear hT hU hs5 hs8 hs9; go_simp; exact rfl)); simp only [Act.put, List.setIfInBounds_toArray, List.set_cons_zero, List.set_cons_succ]
        refine RV.lexg_new (fun _ => by rfl) ?_ ?_; (next => (intro g L w' hU hT; have p' := hT.bel; have hs8 := hU.closed.no (j := 8) (i := 5) rfl (by kernel_rfl) hU.not; have hs9 := hU.closed.no (j := 9) (i := 8) rfl (by kernel_rfl) hs8; refine lx_call (f := 49) (args := #[.slice ca cn ccap]) (w' := w') (by go_simp) ((C1.out _ hT.bel).mono ?_); rintro e w'' ⟨u, rfl, hv, hb⟩; exact ⟨u, rfl, hT.new (by decide) hs9 hb (StS.keep _ _ _ _ _ _ _) ⟨fun _ => hv.base p'.size, fun h => absurd h (by decide), fun h => absurd h (by decide)⟩⟩)); simp only [Act.put, List.setIfInBounds_toArray, List.set_cons_zero, List.set_cons_succ]
        refine RV.lexg_val (fun _ => by rfl) ?_; apply Exists.intro; refine ⟨?_, ?_⟩; ((intro g L w' hU hT; have hT' := hT.upd (i := 6) (by decide) (fun _ _ => ⟨fun h => absurd h (by decide), fun h => absurd h (by decide), fun h => absurd h (by decide)⟩); clear hT hU; go_simp; exact rfl)); simp only [Act.put, List.setIfInBounds_toArray, List.set_cons_zero, List.set_cons_succ]
        refine RV.lexg_new (fun _ => by rfl) ?_ ?_; (next => (intro g L w' hU hT; have p' := hT.bel; have hs8 := hU.closed.no (j := 8) (i := 7) rfl (by kernel_rfl) hU.not; have hs9 := hU.closed.no (j := 9) (i := 8) rfl (by kernel_rfl) hs8; refine lx_call (f := 49) (args := #[.slice ta tn tcap]) (w' := w') (by go_simp) ((C2.out _ hT.bel).mono ?_); rintro e w'' ⟨u, rfl, hv, hb⟩; exact ⟨u, rfl, hT.new (by decide) hs9 hb (StS.keep _ _ _ _ _ _ _) ⟨fun h => absurd h (by decide), fun _ => hv.base p'.size, fun h => absurd h (by decide)⟩⟩)); simp only [Act.put, List.setIfInBounds_toArray, List.set_cons_zero, List.set_cons_succ]
        refine RV.lexg_new (fun _ => by rfl) ?_ ?_
        · intro g L w' hU hT
          have h9 := hU.closed.no (j := 9) (i := 8) rfl (by kernel_rfl) hU.not
          have o1 := (hT.at_ h9 5 (hU.yes rfl (by kernel_rfl))).1 rfl
          have o2 := (hT.at_ h9 7 (hU.yes rfl (by kernel_rfl))).2.1 rfl
          refine lx_ok (u := .agg #[.int .i64 (b + 1), g 5, g 7]) (w' := w') ?_ (hT.new (by decide) h9 (Below.refl _ _) (StS.keep _ _ _ _ _ _ _) ⟨fun h => absurd h (by decide), fun h => absurd h (by decide), fun _ => ⟨_, _, rfl, o1, o2⟩⟩)
          obtain ⟨a1, k1, m1, e1⟩ := o1.shape
          obtain ⟨a2, k2, m2, e2⟩ := o2.shape
          rw [e1, e2]
          clear hT hU o1 o2 e1 e2
          go_simp
        simp only [Act.put, List.setIfInBounds_toArray, List.set_cons_zero, List.set_cons_succ]
        refine RV.lexg_op (fun _ => by rfl) ?_
        refine ⟨fun _ => undef, ?_, RV.known_const _ _, ?_⟩
        · intro g L w' hU hT
          obtain ⟨u1, u2, e8, o1, o2⟩ := (hT.at_ hU.not 8 (hU.yes rfl (by kernel_rfl))).2.2 rfl
          obtain ⟨a1, k1, m1, rfl⟩ := o1.shape
          obtain ⟨a2, k2, m2, rfl⟩ := o2.shape
          have hB := D.below (hT.ext hU.not)
          have hT' : StC w w2 (StS w.heap.size 5 7 8 (.int .i64 (b + 1)) cl to) (TrAt w.heap.size (w.heap.size + 1) (.int .i64 (b + 1)) cl to) 9 g (upd L 9) (setAll w' (w.heap.size + 1) 0 [.int .i64 (b + 1), .slice a1 k1 m1, .slice a2 k2 m2]) := StC.store (setAll_below (by omega) _ _ hT.bel) (trAt_store hB rfl o1 o2)
          have zc0 := hB.cell 0; have zf0 := hB.free 0; have zc1 := hB.cell 1; have zf1 := hB.free 1; have zc2 := hB.cell 2; have zf2 := hB.free 2
          simp only [List.getElem?_cons_zero, List.getElem?_cons_succ] at zc0 zc1 zc2
          clear hT hU o1 o2 hB
          rw [e8]
          go_simp
          first | exact hT' | exact ⟨hT', rfl⟩
        simp only [Act.put]
        refine RV.lexg_val (fun _ => by rfl) ?_; apply Exists.intro; refine ⟨?_, ?_⟩; ((intro g L w' hU hT; have hT' := hT.upd (i := 10) (by decide) (fun _ _ => ⟨fun h => absurd h (by decide), fun h => absurd h (by decide), fun h => absurd h (by decide)⟩); clear hT hU; go_simp; exact rfl)); simp only [Act.put, List.setIfInBounds_toArray, List.set_cons_zero, List.set_cons_succ]
        refine RV.lexg_nil ?_
        intro g w6 hT
        have p6 := hT.bel
        obtain ⟨r1, r2, hB, o1, o2⟩ := hT.fin rfl
        clear hT
        go_wp2_with fail
        refine ret_cell_tmp [.int .i64 (b + 1), r1, r2] Try.results28 rfl (Try.isAgg54 _) (Try.sizeOf54 _) (t := 54) ?_ rfl ?_; next => (exact hB)
        exact ⟨_, _, rfl, o1, o2, p6⟩
set_option maxRecDepth 100000 in
set_option maxHeartbeats 8000000 in
theorem sat_any {b m : Int} {pv cv : Value} {pl cl : List Int} (w : World) (hb : b ≤ 9223372036854775807) (hp : Ints w pv pl) (hc : Ints w cv cl) :
    Calls Try.prog 30 #[.agg #[.int .i64 b, pv, cv], .int .i64 m] w fun e w' => ∃ r, e = .returned (.tuple #[r, .bool (atT b pl cl m).2]) ∧ OwnI w' w.heap.size r (atT b pl cl m).1 ∧ Below w.heap.size w w' := by
  have C1 := Lib.hid (fun W (hW : Below w.heap.size w W) => clone_ints W (hp.keep hW))
  have C2 := Lib.hid (fun W (hW : Below w.heap.size w W) => clone_ints W (hc.keep hW))
  obtain ⟨pa, pn, pcap, _, _, _, rfl, -⟩ := hp
  obtain ⟨ca, cn, ccap, _, _, _, rfl, -⟩ := hc
  unfold atT
  by_cases hm : m = b
  · subst hm
    rw [if_pos rfl]
    have hE : (m == m) = true := by simp
    go_enter Try.func30, Try.ntmps30
    go_wp2_with fail
    refine (C2.out _ (by repeat' (first | with_reducible exact Below.refl _ _ | with_reducible assumption | with_reducible refine bel_drew ?_ | with_reducible refine bel_alloc ?_ _ | with_reducible refine bel_set ?_ ?_ _ | with_reducible refine bel_call ?_ (by assumption) | (dsimp only; omega) | (simp; done) | (simp; omega)))).mono ?_
    rintro e w1 ⟨r, rfl, o1, b1⟩
    have p1 : Below w.heap.size w w1 := (by repeat' (first | with_reducible exact Below.refl _ _ | with_reducible assumption | with_reducible refine bel_drew ?_ | with_reducible refine bel_alloc ?_ _ | with_reducible refine bel_set ?_ ?_ _ | with_reducible refine bel_call ?_ (by assumption) | (dsimp only; omega) | (simp; done) | (simp; omega)))
    have O1 := Lib.hid (o1.base (bel_alloc1 w _).size)
    clear b1 o1
    go_wp2_with fail
    go_ret2
    exact ⟨_, rfl, O1.out, p1⟩
  · rw [if_neg hm]
    have hE : (m == b) = false := by simpa using hm
    by_cases h1 : 1 ≤ b
    · have hw1 : IntKind.i64.wrap (b - 1) = b - 1 := Go.IntWalk.i64_in _ (by omega)
      by_cases h2 : m = b - 1
      · rw [if_pos ⟨h1, h2⟩]
        have hE2 : (m == b - 1) = true := by simpa using h2
        clear h2 hm
        go_enter Try.func30, Try.ntmps30
        go_wp2_with fail
        refine (C1.out _ (by repeat' (first | with_reducible exact Below.refl _ _ | with_reducible assumption | with_reducible refine bel_drew ?_ | with_reducible refine bel_alloc ?_ _ | with_reducible refine bel_set ?_ ?_ _ | with_reducible refine bel_call ?_ (by assumption) | (dsimp only; omega) | (simp; done) | (simp; omega)))).mono ?_
        rintro e w1 ⟨r, rfl, o1, b1⟩
        have p1 : Below w.heap.size w w1 := (by repeat' (first | with_reducible exact Below.refl _ _ | with_reducible assumption | with_reducible refine bel_drew ?_ | with_reducible refine bel_alloc ?_ _ | with_reducible refine bel_set ?_ ?_ _ | with_reducible refine bel_call ?_ (by assumption) | (dsimp only; omega) | (simp; done) | (simp; omega)))
        have O1 := Lib.hid (o1.base (bel_alloc1 w _).size)
        clear b1 o1
        go_wp2_with fail
        go_ret2
        exact ⟨_, rfl, O1.out, p1⟩
      · rw [if_neg (fun h => h2 h.2)]
        have hE2 : (m == b - 1) = false := by simpa using h2
        clear h2 hm
        go_enter Try.func30, Try.ntmps30
        go_wp2_with fail
        go_ret2
        exact ⟨_, rfl, OwnI.nil _ _, (by repeat' (first | with_reducible exact Below.refl _ _ | with_reducible assumption | with_reducible refine bel_drew ?_ | with_reducible refine bel_alloc ?_ _ | with_reducible refine bel_set ?_ ?_ _ | with_reducible refine bel_call ?_ (by assumption) | (dsimp only; omega) | (simp; done) | (simp; omega)))⟩
    · rw [if_neg (fun h => h1 h.1)]
      clear hm
      go_enter Try.func30, Try.ntmps30
      go_wp2_with fail
      go_ret2
      exact ⟨_, rfl, OwnI.nil _ _, (by repeat' (first | with_reducible exact Below.refl _ _ | with_reducible assumption | with_reducible refine bel_drew ?_ | with_reducible refine bel_alloc ?_ _ | with_reducible refine bel_set ?_ ?_ _ | with_reducible refine bel_call ?_ (by assumption) | (dsimp only; omega) | (simp; done) | (simp; omega)))⟩
set_option maxRecDepth 100000 in
set_option maxHeartbeats 8000000 in
theorem rat_any {b m : Int} {pv cv : Value} {pl cl : List Int} (w : World) (hb : b ≤ 9223372036854775807) (hp : Ints w pv pl) (hc : Ints w cv cl) :
    Calls Try.prog 31 #[.agg #[.int .i64 b, pv, cv], .int .i64 m] w fun e w' => ∃ r, e = .returned (.tuple #[r, .bool (atT b pl cl m).2]) ∧ OwnI w' w.heap.size r (atT b pl cl m).1 ∧ Below w.heap.size w w' := by
  have C1 := Lib.hid (fun W (hW : Below w.heap.size w W) => copied_any W (hp.keep hW))
  have C2 := Lib.hid (fun W (hW : Below w.heap.size w W) => copied_any W (hc.keep hW))
  obtain ⟨pa, pn, pcap, _, _, _, rfl, -⟩ := hp
  obtain ⟨ca, cn, ccap, _, _, _, rfl, -⟩ := hc
  unfold atT
  by_cases hm : m = b
  · subst hm
    rw [if_pos rfl]
    have hE : (m == m) = true := by simp
    go_enter Try.func31, Try.ntmps31
    go_wp2_with fail
    refine (C2.out _ (by repeat' (first | with_reducible exact Below.refl _ _ | with_reducible assumption | with_reducible refine bel_drew ?_ | with_reducible refine bel_alloc ?_ _ | with_reducible refine bel_set ?_ ?_ _ | with_reducible refine bel_call ?_ (by assumption) | (dsimp only; omega) | (simp; done) | (simp; omega)))).mono ?_
    rintro e w1 ⟨r, rfl, o1, b1⟩
    have p1 : Below w.heap.size w w1 := (by repeat' (first | with_reducible exact Below.refl _ _ | with_reducible assumption | with_reducible refine bel_drew ?_ | with_reducible refine bel_alloc ?_ _ | with_reducible refine bel_set ?_ ?_ _ | with_reducible refine bel_call ?_ (by assumption) | (dsimp only; omega) | (simp; done) | (simp; omega)))
    have O1 := Lib.hid (o1.base (bel_alloc1 w _).size)
    clear b1 o1
    go_wp2_with fail
    go_ret2
    exact ⟨_, rfl, O1.out, p1⟩
  · rw [if_neg hm]
    have hE : (m == b) = false := by simpa using hm
    by_cases h0 : 0 ≤ m
    · by_cases h1 : 1 ≤ b
      · have hw1 : IntKind.i64.wrap (b - 1) = b - 1 := Go.IntWalk.i64_in _ (by omega)
        by_cases h2 : m = b - 1
        · rw [if_pos ⟨h1, h2⟩]
          have hE2 : (m == b - 1) = true := by simpa using h2
          clear h2 hm
          go_enter Try.func31, Try.ntmps31
          go_wp2_with fail
          refine (C1.out _ (by repeat' (first | with_reducible exact Below.refl _ _ | with_reducible assumption | with_reducible refine bel_drew ?_ | with_reducible refine bel_alloc ?_ _ | with_reducible refine bel_set ?_ ?_ _ | with_reducible refine bel_call ?_ (by assumption) | (dsimp only; omega) | (simp; done) | (simp; omega)))).mono ?_
          rintro e w1 ⟨r, rfl, o1, b1⟩
          have p1 : Below w.heap.size w w1 := (by repeat' (first | with_reducible exact Below.refl _ _ | with_reducible assumption | with_reducible refine bel_drew ?_ | with_reducible refine bel_alloc ?_ _ | with_reducible refine bel_set ?_ ?_ _ | with_reducible refine bel_call ?_ (by assumption) | (dsimp only; omega) | (simp; done) | (simp; omega)))
          have O1 := Lib.hid (o1.base (bel_alloc1 w _).size)
          clear b1 o1
          go_wp2_with fail
          go_ret2
          exact ⟨_, rfl, O1.out, p1⟩
        · rw [if_neg (fun h => h2 h.2)]
          have hE2 : (m == b - 1) = false := by simpa using h2
          clear h2 hm
          go_enter Try.func31, Try.ntmps31
          go_wp2_with fail
          go_ret2
          exact ⟨_, rfl, OwnI.nil _ _, (by repeat' (first | with_reducible exact Below.refl _ _ | with_reducible assumption | with_reducible refine bel_drew ?_ | with_reducible refine bel_alloc ?_ _ | with_reducible refine bel_set ?_ ?_ _ | with_reducible refine bel_call ?_ (by assumption) | (dsimp only; omega) | (simp; done) | (simp; omega)))⟩
      · rw [if_neg (fun h => h1 h.1)]
        clear hm
        go_enter Try.func31, Try.ntmps31
        go_wp2_with fail
        go_ret2
        exact ⟨_, rfl, OwnI.nil _ _, (by repeat' (first | with_reducible exact Below.refl _ _ | with_reducible assumption | with_reducible refine bel_drew ?_ | with_reducible refine bel_alloc ?_ _ | with_reducible refine bel_set ?_ ?_ _ | with_reducible refine bel_call ?_ (by assumption) | (dsimp only; omega) | (simp; done) | (simp; omega)))⟩
    · rw [if_neg (fun h => h0 (by omega))]
      clear hm
      go_enter Try.func31, Try.ntmps31
      go_wp2_with fail
      go_ret2
      exact ⟨_, rfl, OwnI.nil _ _, (by repeat' (first | with_reducible exact Below.refl _ _ | with_reducible assumption | with_reducible refine bel_drew ?_ | with_reducible refine bel_alloc ?_ _ | with_reducible refine bel_set ?_ ?_ _ | with_reducible refine bel_call ?_ (by assumption) | (dsimp only; omega) | (simp; done) | (simp; omega)))⟩
set_option maxRecDepth 100000 in
set_option maxHeartbeats 8000000 in
theorem triples_true {b : Int} {pv cv pv' cv' : Value} {pl cl : List Int} (w : World) (hp : Ints w pv pl) (hc : Ints w cv cl) (hp' : Ints w pv' pl) (hc' : Ints w cv' cl) :
    Calls Try.prog 29 #[.agg #[.int .i64 b, pv, cv], .agg #[.int .i64 b, pv', cv']] w fun e w' => e = .returned (.bool true) ∧ Below w.heap.size w w' := by
  have C1 := Lib.hid (fun W (hW : Below w.heap.size w W) => ints_true W (hp.keep hW) (hp'.keep hW))
  have C2 := Lib.hid (fun W (hW : Below w.heap.size w W) => ints_true W (hc.keep hW) (hc'.keep hW))
  obtain ⟨pa, pn, pcap, _, _, _, rfl, -⟩ := hp
  obtain ⟨ca, cn, ccap, _, _, _, rfl, -⟩ := hc
  obtain ⟨pa', pn', pcap', _, _, _, rfl, -⟩ := hp'
  obtain ⟨ca', cn', ccap', _, _, _, rfl, -⟩ := hc'
  have hE : (b == b) = true := by simp
  go_enter Try.func29, Try.ntmps29
  go_wp2_with fail
  refine (C1.out _ (by repeat' (first | with_reducible exact Below.refl _ _ | with_reducible assumption | with_reducible refine bel_drew ?_ | with_reducible refine bel_alloc ?_ _ | with_reducible refine bel_set ?_ ?_ _ | with_reducible refine bel_call ?_ (by assumption) | (dsimp only; omega) | (simp; done) | (simp; omega)))).mono ?_
  rintro e w1 ⟨rfl, b1⟩
  have p1 : Below w.heap.size w w1 := (by repeat' (first | with_reducible exact Below.refl _ _ | with_reducible assumption | with_reducible refine bel_drew ?_ | with_reducible refine bel_alloc ?_ _ | with_reducible refine bel_set ?_ ?_ _ | with_reducible refine bel_call ?_ (by assumption) | (dsimp only; omega) | (simp; done) | (simp; omega)))
  have A : Blk w1 (w.heap.size) [.int .i64 b, .slice pa pn pcap, .slice ca cn ccap] 54 := Blk.below (by repeat' (first | with_reducible assumption | (show (_ : List Value) = _; rfl) | with_reducible exact Blk.new _ _ rfl | (with_reducible refine Blk.new _ _ ?_; simp; done) | with_reducible apply Blk.set_eq | with_reducible apply Blk.other | with_reducible apply Blk.alloc | with_reducible apply Blk.drew | (simp; done) | (simp; omega))) b1; have Ac0 : w1.cell? ⟨w.heap.size, 0, none⟩ = some (.int .i64 b) := A.cell 0; have Ac1 : w1.cell? ⟨w.heap.size, 1, none⟩ = some (.slice pa pn pcap) := A.cell 1; have Ac2 : w1.cell? ⟨w.heap.size, 2, none⟩ = some (.slice ca cn ccap) := A.cell 2; have Af0 : w1.frozen? ⟨w.heap.size, 0, none⟩ = false := A.free 0; have Af1 : w1.frozen? ⟨w.heap.size, 1, none⟩ = false := A.free 1; have Af2 : w1.frozen? ⟨w.heap.size, 2, none⟩ = false := A.free 2; have Az := A.lt
  have B : Blk w1 (w.heap.size + 1) [.int .i64 b, .slice pa' pn' pcap', .slice ca' cn' ccap'] 54 := Blk.below (by repeat' (first | with_reducible assumption | (show (_ : List Value) = _; rfl) | with_reducible exact Blk.new _ _ rfl | (with_reducible refine Blk.new _ _ ?_; simp; done) | with_reducible apply Blk.set_eq | with_reducible apply Blk.other | with_reducible apply Blk.alloc | with_reducible apply Blk.drew | (simp; done) | (simp; omega))) b1; have Bc0 : w1.cell? ⟨w.heap.size + 1, 0, none⟩ = some (.int .i64 b) := B.cell 0; have Bc1 : w1.cell? ⟨w.heap.size + 1, 1, none⟩ = some (.slice pa' pn' pcap') := B.cell 1; have Bc2 : w1.cell? ⟨w.heap.size + 1, 2, none⟩ = some (.slice ca' cn' ccap') := B.cell 2; have Bf0 : w1.frozen? ⟨w.heap.size + 1, 0, none⟩ = false := B.free 0; have Bf1 : w1.frozen? ⟨w.heap.size + 1, 1, none⟩ = false := B.free 1; have Bf2 : w1.frozen? ⟨w.heap.size + 1, 2, none⟩ = false := B.free 2; have Bz := B.lt
  clear b1
  go_wp2_with fail
  refine (C2.out _ p1).mono ?_
  rintro e w2 ⟨rfl, b2⟩
  have p2 : Below w.heap.size w w2 := p1.trans (b2.mono p1.size)
  clear b2
  go_wp2_with fail
  go_ret
  exact ⟨rfl, p2⟩
set_option maxRecDepth 100000 in
set_option maxHeartbeats 16000000 in
theorem ltriples_any {b m : Int} {pv cv tv : Value} {pl cl to : List Int} {w : World} (hb0 : -9223372036854775808 ≤ b) (hb : b ≤ 9223372036854775807) (hp : Ints w pv pl) (hc : Ints w cv cl) (ht : Ints w tv to) :
    Calls Try.prog 7 #[.agg #[.int .i64 b, pv, cv], tv, .int .i64 m] w fun e w' => e = .returned (.bool true) ∧ Below w.heap.size w w' := by
  have C0 := Lib.hid (fun W => pawake_any W)
  have CS := Lib.hid (fun W (hW : Below w.heap.size w W) => sstep_any (b := b) W hb (hp.keep hW) (hc.keep hW) (ht.keep hW))
  have CR := Lib.hid (fun W (hW : Below w.heap.size w W) => rtstep_any (b := b) W hb (hp.keep hW) (hc.keep hW) (ht.keep hW))
  have CA := Lib.hid (fun N W (hW : Below w.heap.size w W) => sat_any (b := b) (m := N) W hb (hp.keep hW) (hc.keep hW))
  have CB := Lib.hid (fun N W (hW : Below w.heap.size w W) => rat_any (b := b) (m := N) W hb (hp.keep hW) (hc.keep hW))
  have HB0 := Lib.hid hb0
  have HB := Lib.hid hb
  obtain ⟨pa, pn, pcap, _, _, _, rfl, -⟩ := hp
  obtain ⟨ca, cn, ccap, _, _, _, rfl, -⟩ := hc
  obtain ⟨ta, tn, tcap, _, _, _, rfl, -⟩ := ht
  clear hb0 hb
  generalize stepT b pl cl to = S at *
  obtain ⟨⟨S1, S2, S3⟩, S4⟩ := S
  dsimp only at CS CR
  have hE4 : (S4 != S4) = false := by simp
  have hE5 : ∀ x : Bool, (x != x) = false := by simp
  go_enter Try.func7, Try.ntmps7
  go_wp2_with fail
  refine (C0.out _).mono ?_
  rintro e w1 ⟨rfl, b1⟩
  have p1 : Below w.heap.size w w1 := (by repeat' (first | with_reducible exact Below.refl _ _ | with_reducible assumption | with_reducible refine bel_drew ?_ | with_reducible refine bel_alloc ?_ _ | with_reducible refine bel_set ?_ ?_ _ | with_reducible refine bel_call ?_ (by assumption) | (dsimp only; omega) | (simp; done) | (simp; omega)))
  have A : Blk w1 (w.heap.size) [.int .i64 b, .slice pa pn pcap, .slice ca cn ccap] 54 := Blk.below (by repeat' (first | with_reducible assumption | (show (_ : List Value) = _; rfl) | with_reducible exact Blk.new _ _ rfl | (with_reducible refine Blk.new _ _ ?_; simp; done) | with_reducible apply Blk.set_eq | with_reducible apply Blk.other | with_reducible apply Blk.alloc | with_reducible apply Blk.drew | (simp; done) | (simp; omega))) b1; have Ac0 : w1.cell? ⟨w.heap.size, 0, none⟩ = some (.int .i64 b) := A.cell 0; have Ac1 : w1.cell? ⟨w.heap.size, 1, none⟩ = some (.slice pa pn pcap) := A.cell 1; have Ac2 : w1.cell? ⟨w.heap.size, 2, none⟩ = some (.slice ca cn ccap) := A.cell 2; have Af0 : w1.frozen? ⟨w.heap.size, 0, none⟩ = false := A.free 0; have Af1 : w1.frozen? ⟨w.heap.size, 1, none⟩ = false := A.free 1; have Af2 : w1.frozen? ⟨w.heap.size, 2, none⟩ = false := A.free 2; have Az := A.lt
  clear b1 C0
  go_wp2_with fail
  refine (CS.out _ p1).mono ?_
  rintro e w2 ⟨r1, r2, rfl, o1, o2, b2⟩
  obtain ⟨a1, k1, m1, rfl⟩ := o1.shape
  obtain ⟨a2, k2, m2, rfl⟩ := o2.shape
  have p2 : Below w.heap.size w w2 := p1.trans (b2.mono p1.size)
  have B : Blk w2 (w.heap.size) [.int .i64 b, .slice pa pn pcap, .slice ca cn ccap] 54 := A.below b2; have Bc0 : w2.cell? ⟨w.heap.size, 0, none⟩ = some (.int .i64 b) := B.cell 0; have Bc1 : w2.cell? ⟨w.heap.size, 1, none⟩ = some (.slice pa pn pcap) := B.cell 1; have Bc2 : w2.cell? ⟨w.heap.size, 2, none⟩ = some (.slice ca cn ccap) := B.cell 2; have Bf0 : w2.frozen? ⟨w.heap.size, 0, none⟩ = false := B.free 0; have Bf1 : w2.frozen? ⟨w.heap.size, 1, none⟩ = false := B.free 1; have Bf2 : w2.frozen? ⟨w.heap.size, 2, none⟩ = false := B.free 2; have Bz := B.lt
  have s2 := p2.size
  have I1 := Lib.hid o1.ints
  have I2 := Lib.hid o2.ints
  clear b2 A Ac0 Ac1 Ac2 Af0 Af1 Af2 Az p1 CS o1 o2
  go_wp2_with fail
  refine (CR.out _ (by repeat' (first | with_reducible exact Below.refl _ _ | with_reducible assumption | with_reducible refine bel_drew ?_ | with_reducible refine bel_alloc ?_ _ | with_reducible refine bel_set ?_ ?_ _ | with_reducible refine bel_call ?_ (by assumption) | (dsimp only; omega) | (simp; done) | (simp; omega)))).mono ?_
  rintro e w3 ⟨r3, r4, rfl, o3, o4, b3⟩
  obtain ⟨a3, k3, m3, rfl⟩ := o3.shape
  obtain ⟨a4, k4, m4, rfl⟩ := o4.shape
  have q3 : Below w2.heap.size w2 w3 := (by repeat' (first | with_reducible exact Below.refl _ _ | with_reducible assumption | with_reducible refine bel_drew ?_ | with_reducible refine bel_alloc ?_ _ | with_reducible refine bel_set ?_ ?_ _ | with_reducible refine bel_call ?_ (by assumption) | (dsimp only; omega) | (simp; done) | (simp; omega)))
  have p3 : Below w.heap.size w w3 := p2.trans (q3.mono p2.size)
  have D : Blk w3 (w.heap.size) [.int .i64 b, .slice pa pn pcap, .slice ca cn ccap] 54 := Blk.below (by repeat' (first | with_reducible assumption | (show (_ : List Value) = _; rfl) | with_reducible exact Blk.new _ _ rfl | (with_reducible refine Blk.new _ _ ?_; simp; done) | with_reducible apply Blk.set_eq | with_reducible apply Blk.other | with_reducible apply Blk.alloc | with_reducible apply Blk.drew | (simp; done) | (simp; omega))) b3; have Dc0 : w3.cell? ⟨w.heap.size, 0, none⟩ = some (.int .i64 b) := D.cell 0; have Dc1 : w3.cell? ⟨w.heap.size, 1, none⟩ = some (.slice pa pn pcap) := D.cell 1; have Dc2 : w3.cell? ⟨w.heap.size, 2, none⟩ = some (.slice ca cn ccap) := D.cell 2; have Df0 : w3.frozen? ⟨w.heap.size, 0, none⟩ = false := D.free 0; have Df1 : w3.frozen? ⟨w.heap.size, 1, none⟩ = false := D.free 1; have Df2 : w3.frozen? ⟨w.heap.size, 2, none⟩ = false := D.free 2; have Dz := D.lt
  have E : Blk w3 (w2.heap.size) [.int .i64 S1, .slice a1 k1 m1, .slice a2 k2 m2] 54 := Blk.below (by repeat' (first | with_reducible assumption | (show (_ : List Value) = _; rfl) | with_reducible exact Blk.new _ _ rfl | (with_reducible refine Blk.new _ _ ?_; simp; done) | with_reducible apply Blk.set_eq | with_reducible apply Blk.other | with_reducible apply Blk.alloc | with_reducible apply Blk.drew | (simp; done) | (simp; omega))) b3; have Ec0 : w3.cell? ⟨w2.heap.size, 0, none⟩ = some (.int .i64 S1) := E.cell 0; have Ec1 : w3.cell? ⟨w2.heap.size, 1, none⟩ = some (.slice a1 k1 m1) := E.cell 1; have Ec2 : w3.cell? ⟨w2.heap.size, 2, none⟩ = some (.slice a2 k2 m2) := E.cell 2; have Ef0 : w3.frozen? ⟨w2.heap.size, 0, none⟩ = false := E.free 0; have Ef1 : w3.frozen? ⟨w2.heap.size, 1, none⟩ = false := E.free 1; have Ef2 : w3.frozen? ⟨w2.heap.size, 2, none⟩ = false := E.free 2; have Ez := E.lt
  have I3 := Lib.hid o3.ints
  have I4 := Lib.hid o4.ints
  have s3 := q3.size
  have CT := Lib.hid (fun W (hW : Below w3.heap.size w3 W) => triples_true (b := S1) W ((I1.out.keep q3).keep hW) ((I2.out.keep q3).keep hW) (I3.out.keep hW) (I4.out.keep hW))
  clear b3 B Bc0 Bc1 Bc2 Bf0 Bf1 Bf2 Bz CR o3 o4 I1 I2 I3 I4 p2
  go_wp2_with fail
  refine (CT.out _ (by repeat' (first | with_reducible exact Below.refl _ _ | with_reducible assumption | with_reducible refine bel_drew ?_ | with_reducible refine bel_alloc ?_ _ | with_reducible refine bel_set ?_ ?_ _ | with_reducible refine bel_call ?_ (by assumption) | (dsimp only; omega) | (simp; done) | (simp; omega)))).mono ?_
  rintro e w4 ⟨rfl, b4⟩
  have p4 : Below w.heap.size w w4 := (by repeat' (first | with_reducible exact Below.refl _ _ | with_reducible assumption | with_reducible refine bel_drew ?_ | with_reducible refine bel_alloc ?_ _ | with_reducible refine bel_set ?_ ?_ _ | with_reducible refine bel_call ?_ (by assumption) | (dsimp only; omega) | (simp; done) | (simp; omega)))
  have F : Blk w4 w.heap.size [.int .i64 b, .slice pa pn pcap, .slice ca cn ccap] 54 := Blk.below (by repeat' (first | with_reducible assumption | (show (_ : List Value) = _; rfl) | with_reducible exact Blk.new _ _ rfl | (with_reducible refine Blk.new _ _ ?_; simp; done) | with_reducible apply Blk.set_eq | with_reducible apply Blk.other | with_reducible apply Blk.alloc | with_reducible apply Blk.drew | (simp; done) | (simp; omega))) b4
  clear b4 CT D Dc0 Dc1 Dc2 Df0 Df1 Df2 Dz E Ec0 Ec1 Ec2 Ef0 Ef1 Ef2 Ez p3 q3 s2 s3
  go_wp2_with fail
  go_loopg [11] 3 (fun g s11 wr => ∃ k : Int, -1 ≤ k ∧ k ≤ 2 ∧ g = (2 - k).toNat ∧ s11 = .int .i64 k ∧ Blk wr w.heap.size [.int .i64 b, .slice pa pn pcap, .slice ca cn ccap] 54 ∧ Below w.heap.size w wr)
  case atStart => exact ⟨-1, by omega, by omega, rfl, rfl, F, p4⟩
  case round =>
    obtain ⟨k, hk0, hk1, rfl, rfl, G, q⟩ := hrel
    have Gc0 : wr.cell? ⟨w.heap.size, 0, none⟩ = some (.int .i64 b) := G.cell 0; have Gc1 : wr.cell? ⟨w.heap.size, 1, none⟩ = some (.slice pa pn pcap) := G.cell 1; have Gc2 : wr.cell? ⟨w.heap.size, 2, none⟩ = some (.slice ca cn ccap) := G.cell 2; have Gz := G.lt
    clear F p4
    by_cases hlt : k < 2
    · have hw1 : IntKind.i64.wrap (k + 1) = k + 1 := Go.IntWalk.i64_in _ (by omega)
      have key : ∀ N : Int, True := fun _ => trivial
      by_cases hg : 0 ≤ k
      · by_cases hbig : -4611686018427387904 < b
        · have hw2 : IntKind.i64.wrap (b - k) = b - k := Go.IntWalk.i64_in _ (by have := HB.out; omega)
          go_wp2_with fail
          refine (CA.out _ _ q).mono ?_
          rintro e w5 ⟨r, rfl, o1, b5⟩
          have p5 : Below w.heap.size w w5 := q.trans (b5.mono q.size)
          have H : Blk w5 (w.heap.size) [.int .i64 b, .slice pa pn pcap, .slice ca cn ccap] 54 := G.below b5; have Hc0 : w5.cell? ⟨w.heap.size, 0, none⟩ = some (.int .i64 b) := H.cell 0; have Hc1 : w5.cell? ⟨w.heap.size, 1, none⟩ = some (.slice pa pn pcap) := H.cell 1; have Hc2 : w5.cell? ⟨w.heap.size, 2, none⟩ = some (.slice ca cn ccap) := H.cell 2; have Hf0 : w5.frozen? ⟨w.heap.size, 0, none⟩ = false := H.free 0; have Hf1 : w5.frozen? ⟨w.heap.size, 1, none⟩ = false := H.free 1; have Hf2 : w5.frozen? ⟨w.heap.size, 2, none⟩ = false := H.free 2; have Hz := H.lt
          have I1 := Lib.hid o1.ints
          clear o1 b5 Gc0 Gc1 Gc2 Gz G q
          go_wp2_with fail
          refine (CB.out _ _ p5).mono ?_
          rintro e w6 ⟨r', rfl, o2, b6⟩
          have p6 : Below w.heap.size w w6 := p5.trans (b6.mono p5.size)
          have C7 := Lib.hid (ints_true w6 (I1.out.keep b6) o2.ints)
          have J := H.below b6
          clear o2 b6 I1 H Hc0 Hc1 Hc2 Hf0 Hf1 Hf2 Hz p5
          go_wp2_with fail
          refine C7.out.mono ?_
          rintro e w7 ⟨rfl, b7⟩
          have p7 : Below w.heap.size w w7 := p6.trans (b7.mono p6.size)
          have K := J.below b7
          clear C7 b7 J p6
          go_wp2_with fail
          go_roundg (2 - (k + 1)).toNat
          case measure => omega
          case rel => exact ⟨k + 1, by omega, by omega, rfl, (by first | rfl | simp), K, p7⟩
        · go_wp2_with fail
          refine (CA.out _ _ q).mono ?_
          rintro e w5 ⟨r, rfl, o1, b5⟩
          have p5 : Below w.heap.size w w5 := q.trans (b5.mono q.size)
          have H : Blk w5 (w.heap.size) [.int .i64 b, .slice pa pn pcap, .slice ca cn ccap] 54 := G.below b5; have Hc0 : w5.cell? ⟨w.heap.size, 0, none⟩ = some (.int .i64 b) := H.cell 0; have Hc1 : w5.cell? ⟨w.heap.size, 1, none⟩ = some (.slice pa pn pcap) := H.cell 1; have Hc2 : w5.cell? ⟨w.heap.size, 2, none⟩ = some (.slice ca cn ccap) := H.cell 2; have Hf0 : w5.frozen? ⟨w.heap.size, 0, none⟩ = false := H.free 0; have Hf1 : w5.frozen? ⟨w.heap.size, 1, none⟩ = false := H.free 1; have Hf2 : w5.frozen? ⟨w.heap.size, 2, none⟩ = false := H.free 2; have Hz := H.lt
          have I1 := Lib.hid o1.ints
          clear o1 b5 Gc0 Gc1 Gc2 Gz G q
          go_wp2_with fail
          refine (CB.out _ _ p5).mono ?_
          rintro e w6 ⟨r', rfl, o2, b6⟩
          have p6 : Below w.heap.size w w6 := p5.trans (b6.mono p5.size)
          have C7 := Lib.hid (ints_true w6 (I1.out.keep b6) o2.ints)
          have J := H.below b6
          clear o2 b6 I1 H Hc0 Hc1 Hc2 Hf0 Hf1 Hf2 Hz p5
          go_wp2_with fail
          refine C7.out.mono ?_
          rintro e w7 ⟨rfl, b7⟩
          have p7 : Below w.heap.size w w7 := p6.trans (b7.mono p6.size)
          have K := J.below b7
          clear C7 b7 J p6
          go_wp2_with fail
          go_roundg (2 - (k + 1)).toNat
          case measure => omega
          case rel => exact ⟨k + 1, by omega, by omega, rfl, (by first | rfl | simp), K, p7⟩
      · go_wp2_with fail
        refine (CA.out _ _ q).mono ?_
        rintro e w5 ⟨r, rfl, o1, b5⟩
        have p5 : Below w.heap.size w w5 := q.trans (b5.mono q.size)
        have H : Blk w5 (w.heap.size) [.int .i64 b, .slice pa pn pcap, .slice ca cn ccap] 54 := G.below b5; have Hc0 : w5.cell? ⟨w.heap.size, 0, none⟩ = some (.int .i64 b) := H.cell 0; have Hc1 : w5.cell? ⟨w.heap.size, 1, none⟩ = some (.slice pa pn pcap) := H.cell 1; have Hc2 : w5.cell? ⟨w.heap.size, 2, none⟩ = some (.slice ca cn ccap) := H.cell 2; have Hf0 : w5.frozen? ⟨w.heap.size, 0, none⟩ = false := H.free 0; have Hf1 : w5.frozen? ⟨w.heap.size, 1, none⟩ = false := H.free 1; have Hf2 : w5.frozen? ⟨w.heap.size, 2, none⟩ = false := H.free 2; have Hz := H.lt
        have I1 := Lib.hid o1.ints
        clear o1 b5 Gc0 Gc1 Gc2 Gz G q
        go_wp2_with fail
        refine (CB.out _ _ p5).mono ?_
        rintro e w6 ⟨r', rfl, o2, b6⟩
        have p6 : Below w.heap.size w w6 := p5.trans (b6.mono p5.size)
        have C7 := Lib.hid (ints_true w6 (I1.out.keep b6) o2.ints)
        have J := H.below b6
        clear o2 b6 I1 H Hc0 Hc1 Hc2 Hf0 Hf1 Hf2 Hz p5
        go_wp2_with fail
        refine C7.out.mono ?_
        rintro e w7 ⟨rfl, b7⟩
        have p7 : Below w.heap.size w w7 := p6.trans (b7.mono p6.size)
        have K := J.below b7
        clear C7 b7 J p6
        go_wp2_with fail
        go_roundg (2 - (k + 1)).toNat
        case measure => omega
        case rel => exact ⟨k + 1, by omega, by omega, rfl, (by first | rfl | simp), K, p7⟩
    · go_wp2_with fail
      go_ret
      exact ⟨rfl, q⟩
end Go.Proofs.Ytbckfoldjlgabaa
