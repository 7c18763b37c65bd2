/- WALKS of law07: the document's fits and between. WALKS of law07: the document's Form, Again, Left. WALKS of law07: the document's Again, Left. -/
import Derived.Test.YtbckfoldjlgabaaSpI
namespace Go.Proofs.Ytbckfoldjlgabaa
open Go.RowKit
open Fl (nan key canon)
section
variable {w : World} {tb gb ob : Nat} {lv : Value} {lg : Nat → Value} {s : St}
set_option maxRecDepth 100000 in
set_option maxHeartbeats 4000000 in
theorem rfits_any {v : Value} {l : List Int} (hs : RSrc w tb gb ob lv lg s) (h : Ints w v l) :
    Calls Try.prog 40 #[.pointer (some ⟨tb, 0, none⟩), v] w fun e w' => e = .returned (.bool (fits s l)) ∧ Below w.heap.size w w' := by
  obtain ⟨a, n, cap, b, o, p, rfl, rfl, ha, hr, hc, hm⟩ := h
  obtain ⟨T, hT⟩ : ∃ T : Bool, fits s (toL n p) = T := ⟨_, rfl⟩
  rw [hT]
  rw [fits_toL] at hT
  have HT := Lib.hid hT
  have C1 := Lib.hid (rparts_any hs)
  have C2 := Lib.hid (fun W (hW : Below w.heap.size w W) i hi => rlen_any (hs.keep hW) (p := i) hi)
  have hn4 := hs.ok.n4
  have HR := Lib.hid hr
  have HA := Lib.hid ha
  clear hr ha hT hc hm hs
  obtain ⟨N, lo, of⟩ := s
  dsimp only at *
  by_cases hnn : n = N
  · subst hnn
    have hE := cast_eq n
    have hn5 : (n : Int) ≤ 4 := by omega
    go_enter Try.func40, Try.ntmps40
    go_wp2_with fail
    refine C1.out.mono ?_
    rintro e w' ⟨rfl, rfl⟩
    go_wp2_with fail
    go_loopg [5] n (fun g s5 wr => ∃ (i : Nat), i ≤ n ∧ g = n - i ∧ s5 = .int .i64 i ∧ (∀ j, j < i → 0 ≤ p j ∧ p j ≤ ((lo j).length : Int)) ∧ Below w.heap.size w wr)
    case atStart => exact ⟨0, Nat.zero_le _, rfl, rfl, fun j hj => absurd hj (Nat.not_lt_zero _), Below.refl _ _⟩
    case round =>
      obtain ⟨i, hi, rfl, rfl, hal, q⟩ := hrel
      have HAL := Lib.hid hal
      clear hal
      by_cases hlt : i < n
      · obtain rfl := HA.out (by omega)
        have hz2 : (i : Int) < (n : Int) := by omega
        have hw1 : IntKind.i64.wrap ((i : Int) + 1) = (i : Int) + 1 := Go.IntWalk.i64_in _ (by omega)
        have r1 := HR.out (by omega)
        have x0 : wr.cell? ⟨b, o + i, none⟩ = some (.int .i64 (p i)) := (q.cell (p := ⟨b, o + i, none⟩) r1.lt).trans (r1.c i hlt)
        have z1 : b < wr.heap.size := Nat.lt_of_lt_of_le r1.lt q.size
        have C3 := Lib.hid (fun W (hW : Below w.heap.size w W) => C2.out W hW i hlt)
        clear r1 HR HA C1 C2
        by_cases h0 : p i < 0
        · obtain rfl : T = false := HT.out.symm.trans (decide_eq_false (fun hd => by have := hd.2 i hlt; omega))
          clear HT HAL
          go_wp2_with fail
          refine wp_region_below (by kernel_rfl) (by kernel_rfl) ?_
          iterate 15 (first | (refine lex_skip (by rfl) (fun _ _ _ _ h => h) ?_; simp only [Act.put, List.setIfInBounds_toArray, List.set_cons_zero, List.set_cons_succ]) | (refine lex_op (by rfl) ?_; apply Exists.intro; refine ⟨?_, ?_⟩; ((intro _ _ _ _ hT; obtain ⟨hc, hf⟩ := bcell hT; go_simp; first | exact rfl | exact call_same hT (C3.out _ (q.trans (hT.mono q.size))))); simp only [Act.put, List.setIfInBounds_toArray, List.set_cons_zero, List.set_cons_succ]))
          refine lex_nil ?_
          intro w2 bel2
          have p2 : Below w.heap.size w w2 := q.trans (bel2.mono q.size)
          go_wp2_with fail
          go_ret
          exact ⟨rfl, p2⟩
        · have h0' : (p i < 0) = False := eq_false h0
          by_cases h1 : ((lo i).length : Int) < p i
          · obtain rfl : T = false := HT.out.symm.trans (decide_eq_false (fun hd => by have := hd.2 i hlt; omega))
            clear HT HAL
            go_wp2_with fail
            refine wp_region_below (by kernel_rfl) (by kernel_rfl) ?_
            iterate 15 (first | (refine lex_skip (by rfl) (fun _ _ _ _ h => h) ?_; simp only [Act.put, List.setIfInBounds_toArray, List.set_cons_zero, List.set_cons_succ]) | (refine lex_op (by rfl) ?_; apply Exists.intro; refine ⟨?_, ?_⟩; ((intro _ _ _ _ hT; obtain ⟨hc, hf⟩ := bcell hT; go_simp; first | exact rfl | exact call_same hT (C3.out _ (q.trans (hT.mono q.size))))); simp only [Act.put, List.setIfInBounds_toArray, List.set_cons_zero, List.set_cons_succ]))
            refine lex_nil ?_
            intro w2 bel2
            have p2 : Below w.heap.size w w2 := q.trans (bel2.mono q.size)
            go_wp2_with fail
            go_ret
            exact ⟨rfl, p2⟩
          · have HP : Hid (0 ≤ p i ∧ p i ≤ ((lo i).length : Int)) := Lib.hid (by omega)
            have h1' : (((lo i).length : Int) < p i) = False := eq_false h1
            go_wp2_with fail
            refine wp_region_below (by kernel_rfl) (by kernel_rfl) ?_
            iterate 15 (first | (refine lex_skip (by rfl) (fun _ _ _ _ h => h) ?_; simp only [Act.put, List.setIfInBounds_toArray, List.set_cons_zero, List.set_cons_succ]) | (refine lex_op (by rfl) ?_; apply Exists.intro; refine ⟨?_, ?_⟩; ((intro _ _ _ _ hT; obtain ⟨hc, hf⟩ := bcell hT; go_simp; first | exact rfl | exact call_same hT (C3.out _ (q.trans (hT.mono q.size))))); simp only [Act.put, List.setIfInBounds_toArray, List.set_cons_zero, List.set_cons_succ]))
            refine lex_nil ?_
            intro w2 bel2
            have p2 : Below w.heap.size w w2 := q.trans (bel2.mono q.size)
            clear bel2
            go_wp2_with fail
            go_roundg (n - (i + 1))
            case measure => omega
            case rel => exact ⟨i + 1, hlt, rfl, (by first | rfl | simp), fun j hj => by
              rcases Nat.lt_or_ge j i with h1 | h1
              · exact HAL.out j h1
              · obtain rfl : j = i := by omega
                exact HP.out, p2⟩
      · have hz2 : ¬ ((i : Int) < (n : Int)) := by omega
        obtain rfl : T = true := HT.out.symm.trans (decide_eq_true ⟨by first | exact rfl | trivial, fun j hj => HAL.out j (by omega)⟩)
        clear HT HAL
        go_wp2_with fail
        go_ret
        exact ⟨rfl, q⟩
  · have hE := cast_ne hnn
    obtain rfl : T = false := HT.out.symm.trans (decide_eq_false (fun hd => hnn hd.1))
    clear HT
    go_enter Try.func40, Try.ntmps40
    go_wp2_with fail
    refine C1.out.mono ?_
    rintro e w' ⟨rfl, rfl⟩
    go_wp2_with fail
    go_ret
    exact ⟨rfl, Below.refl _ _⟩
set_option maxRecDepth 100000 in
set_option maxHeartbeats 4000000 in
theorem rbetween_any {v v' : Value} {l l' : List Int} (hs : RSrc w tb gb ob lv lg s) (h : Ints w v l) (h' : Ints w v' l') (hl : l.length = s.n) (hl' : l'.length = s.n)
    (hf : ∀ i, i < s.n → 0 ≤ l.getD i 0 ∧ l.getD i 0 ≤ l'.getD i 0 ∧ l'.getD i 0 ≤ (s.log i).length) :
    Calls Try.prog 43 #[.pointer (some ⟨tb, 0, none⟩), v, v'] w fun e w' => ∃ r, e = .returned r ∧ OwnR w' w.heap.size r (betw s l l' s.n) ∧ Below w.heap.size w w' := by
  have HF := Lib.hid hf
  obtain ⟨a, n, cap, b, o, p, rfl, hlp, ha, hr, hc, hm⟩ := h
  obtain ⟨a', n', cap', b', o', p', rfl, hlp', ha', hr', hc', hm'⟩ := h'
  obtain rfl : s.n = n := by rw [← hl, hlp, toL_len]
  obtain rfl : s.n = n' := by rw [← hl', hlp', toL_len]
  have hp : ∀ i, i < s.n → l.getD i 0 = p i := fun i hi => by rw [hlp, toL_getD hi]
  have hp' : ∀ i, i < s.n → l'.getD i 0 = p' i := fun i hi => by rw [hlp', toL_getD hi]
  have HP := Lib.hid hp
  have HP' := Lib.hid hp'
  have HR := Lib.hid hr
  have HA := Lib.hid ha
  have HR' := Lib.hid hr'
  have HA' := Lib.hid ha'
  have HS := Lib.hid hs
  have hn4 := hs.ok.n4
  clear hr ha hc hm hr' ha' hc' hm' hp hp' hf hlp hlp' hl hl'
  obtain ⟨N, hN⟩ : ∃ N, s.n = N := ⟨_, rfl⟩
  have HN := Lib.hid hN
  rw [hN] at HF HP HP' HR HA HR' HA' hn4
  rw [hN]
  clear hN hs
  go_enter Try.func43, Try.ntmps43
  go_wp2_with fail
  go_loopg [7, 8] N (fun g s7 s11 wr => ∃ (i : Nat), i ≤ N ∧ g = N - i ∧ s11 = .int .i64 i ∧ OwnR wr w.heap.size s7 (betw s l l' i) ∧ Below w.heap.size w wr)
  case atStart => exact ⟨0, Nat.zero_le _, rfl, rfl, OwnR.made w, (by repeat' (first | with_reducible exact Below.refl _ _ | with_reducible assumption | with_reducible refine bel_drew ?_ | with_reducible refine bel_alloc ?_ _ | with_reducible refine bel_set ?_ ?_ _ | with_reducible refine bel_call ?_ (by assumption) | (dsimp only; omega) | (simp; done) | (simp; omega)))⟩
  case round =>
    obtain ⟨i, hi, rfl, rfl, own, q⟩ := hrel
    by_cases hlt : i < N
    · obtain rfl := HA.out (by omega)
      obtain rfl := HA'.out (by omega)
      have hz2 : (i : Int) < (N : Int) := by omega
      have hw1 : IntKind.i64.wrap ((i : Int) + 1) = (i : Int) + 1 := Go.IntWalk.i64_in _ (by omega)
      have r1 := HR.out (by omega)
      have r2 := HR'.out (by omega)
      have x0 := r1.c i hlt
      have y0 := r2.c i hlt
      have z1 := r1.lt
      have z2 := r2.lt
      have hF := HF.out i hlt
      rw [HP.out i hlt, HP'.out i hlt] at hF
      have HG := Lib.hid hF
      have C1 := Lib.hid (fun W (hW : Below w.heap.size w W) => rlog_any (HS.out.keep hW) (p := i) (HN.out ▸ hlt))
      have HO := Lib.hid own
      have hE : seg s l l' i = ((s.log i).drop (p i).toNat).take ((p' i).toNat - (p i).toNat) := by unfold seg; rw [HP.out i hlt, HP'.out i hlt]
      have HE := Lib.hid hE
      clear r1 r2 HR HR' hF own hE
      go_wp2_with fail
      refine (C1.out _ q).mono ?_
      rintro e w5 ⟨v9, rfl, hv9, hb9⟩
      have q5 : Below w.heap.size w w5 := q.trans (hb9.mono q.size)
      have HO5 := Lib.hid (HO.out.keep hb9)
      have HV9 := Lib.hid hv9.recs
      clear hv9 hb9 HO C1
      go_wp2_with fail
      refine RV.wp_region_ghost (BtC w w5 u7 (betw s l l' i) (s.log i) (seg s l l' i) 1 10 11) (by kernel_rfl) (by kernel_rfl) BtC.loc (.begin _ (by decide) (by decide) (by decide) q5 HO5.out) ?_
      refine RV.lexg_val (fun _ => by rfl) ?_; apply Exists.intro; refine ⟨?_, ?_⟩; ((intro g L w' hU hT; have hT' := hT.upd (i := 0) (by decide); obtain ⟨hc, hf⟩ := bcell hT.bel; clear hT hU; go_simp; exact rfl)); simp only [Act.put, List.setIfInBounds_toArray, List.set_cons_zero, List.set_cons_succ]
      refine RV.lexg_new (fun _ => by rfl) ?_ ?_
      · intro g L w' hU hT
        have h10 := hU.closed.no (j := 10) (i := 1) rfl (by kernel_rfl) hU.not
        have h11 := hU.closed.no (j := 11) (i := 10) rfl (by kernel_rfl) h10
        exact lx_ok (u := v9) (w' := w') (by go_simp) (hT.doSame (by decide) h11 h10 (HV9.out.keep (hT.ext h11)))
      simp only [Act.put, List.setIfInBounds_toArray, List.set_cons_zero, List.set_cons_succ]
      refine RV.lexg_val (fun _ => by rfl) ?_; apply Exists.intro; refine ⟨?_, ?_⟩; ((intro g L w' hU hT; have hT' := hT.upd (i := 2) (by decide); obtain ⟨hc, hf⟩ := bcell hT.bel; clear hT hU; go_simp; exact rfl)); simp only [Act.put, List.setIfInBounds_toArray, List.set_cons_zero, List.set_cons_succ]
      refine RV.lexg_val (fun _ => by rfl) ?_; apply Exists.intro; refine ⟨?_, ?_⟩; ((intro g L w' hU hT; have hT' := hT.upd (i := 3) (by decide); obtain ⟨hc, hf⟩ := bcell hT.bel; clear hT hU; go_simp; exact rfl)); simp only [Act.put, List.setIfInBounds_toArray, List.set_cons_zero, List.set_cons_succ]
      refine RV.lexg_val (fun _ => by rfl) ?_; apply Exists.intro; refine ⟨?_, ?_⟩; ((intro g L w' hU hT; have hT' := hT.upd (i := 4) (by decide); obtain ⟨hc, hf⟩ := bcell hT.bel; clear hT hU; go_simp; exact rfl)); simp only [Act.put, List.setIfInBounds_toArray, List.set_cons_zero, List.set_cons_succ]
      refine RV.lexg_val (fun _ => by rfl) ?_; apply Exists.intro; refine ⟨?_, ?_⟩; ((intro g L w' hU hT; have hT' := hT.upd (i := 5) (by decide); obtain ⟨hc, hf⟩ := bcell hT.bel; clear hT hU; go_simp; exact rfl)); simp only [Act.put, List.setIfInBounds_toArray, List.set_cons_zero, List.set_cons_succ]
      refine RV.lexg_val (fun _ => by rfl) ?_; apply Exists.intro; refine ⟨?_, ?_⟩; ((intro g L w' hU hT; have hT' := hT.upd (i := 6) (by decide); obtain ⟨hc, hf⟩ := bcell hT.bel; clear hT hU; go_simp; exact rfl)); simp only [Act.put, List.setIfInBounds_toArray, List.set_cons_zero, List.set_cons_succ]
      refine RV.lexg_val (fun _ => by rfl) ?_; apply Exists.intro; refine ⟨?_, ?_⟩; ((intro g L w' hU hT; have hT' := hT.upd (i := 7) (by decide); obtain ⟨hc, hf⟩ := bcell hT.bel; clear hT hU; go_simp; exact rfl)); simp only [Act.put, List.setIfInBounds_toArray, List.set_cons_zero, List.set_cons_succ]
      refine RV.lexg_val (fun _ => by rfl) ?_; apply Exists.intro; refine ⟨?_, ?_⟩; ((intro g L w' hU hT; have hT' := hT.upd (i := 8) (by decide); obtain ⟨hc, hf⟩ := bcell hT.bel; clear hT hU; go_simp; exact rfl)); simp only [Act.put, List.setIfInBounds_toArray, List.set_cons_zero, List.set_cons_succ]
      refine RV.lexg_val (fun _ => by rfl) ?_; apply Exists.intro; refine ⟨?_, ?_⟩; ((intro g L w' hU hT; have hT' := hT.upd (i := 9) (by decide); obtain ⟨hc, hf⟩ := bcell hT.bel; clear hT hU; go_simp; exact rfl)); simp only [Act.put, List.setIfInBounds_toArray, List.set_cons_zero, List.set_cons_succ]
      refine RV.lexg_new (fun _ => by rfl) ?_ ?_
      · intro g L w' hU hT
        have h13 := hU.closed.no (j := 11) (i := 10) rfl (by kernel_rfl) hU.not
        have h3 : L 1 = true := hU.yes rfl (by kernel_rfl)
        obtain ⟨u, h1, h2⟩ := run_slice_recs (hT.call h3 h13) HG.out.1 HG.out.2.1 HG.out.2.2
        rw [← HE.out] at h2
        refine lx_ok (u := u) (w' := w') ?_ (hT.doSlice (by decide) h13 h2)
        clear hT hU HO5
        go_simp
      simp only [Act.put, List.setIfInBounds_toArray, List.set_cons_zero, List.set_cons_succ]
      refine RV.lexg_new (fun _ => by rfl) ?_ ?_
      · intro g L w' hU hT
        have h12 : L 10 = true := hU.yes rfl (by kernel_rfl)
        have hn7 := (HS.out.ok)
        obtain ⟨u, w'', h1, h2, h3, _⟩ := run_append_recs (hT.own hU.not) (hT.sl h12 hU.not) hT.bel.size (by have h1 := betw_len hn7 l l' (n := i) (by have := HN.out; omega); have h2 := seg_len hn7 l l' (i := i) (by have := HN.out; omega); omega) 22 rfl
        exact lx_append rfl rfl rfl h1 (hT.doAppend hU.not h2 h3)
      simp only [Act.put, List.setIfInBounds_toArray, List.set_cons_zero, List.set_cons_succ]
      refine RV.lexg_op (fun _ => by rfl) ?_
      refine ⟨fun g => g 11, ?_, known_get (by rfl) (by kernel_rfl), ?_⟩
      · intro g L w' hU hT
        have hT' := hT.upd (i := 12) (by decide)
        clear hT hU
        go_simp
      simp only [Act.put, List.setIfInBounds_toArray, List.set_cons_zero, List.set_cons_succ]
      refine RV.lexg_nil ?_
      intro g w2 hT
      have p2 := hT.bel
      have own2 := hT.fin rfl
      rw [← betw_succ] at own2
      clear hT
      dsimp only
      generalize g 11 = v13 at *
      go_wp2_with fail
      go_roundg (N - (i + 1))
      case measure => omega
      case rel => exact ⟨i + 1, hlt, rfl, (by first | rfl | simp), own2, p2⟩
    · obtain rfl : i = N := by omega
      have hz2 : ¬ ((i : Int) < (i : Int)) := by omega
      go_wp2_with fail
      go_ret
      exact ⟨_, rfl, own, q⟩
end
end Go.Proofs.Ytbckfoldjlgabaa
namespace Go.Proofs.Ytbckfoldjlgabaa
open Go.RowKit
open Fl (nan key canon)
theorem bel_alloc1 (w : World) (o : Obj) : Below w.heap.size w (w.alloc o) := (Below.refl _ _).alloc (Nat.le_refl _) _
/-- a slice of one number that was just made -/
theorem single_int (w : World) (z : Int) (hz : -9223372036854775808 ≤ z ∧ z ≤ 9223372036854775807) : Ints (w.alloc (.cells #[.int .i64 z] 3)) (.slice (some ⟨w.heap.size, 0, none⟩) 1 1) [z] := by
  have hb : Blk (w.alloc (.cells #[.int .i64 z] 3)) w.heap.size [.int .i64 z] 3 := Blk.new _ _ rfl
  exact ⟨_, 1, 1, w.heap.size, 0, fun _ => z, rfl, rfl, fun _ => rfl, fun _ => ⟨hb.lt, fun _ _ => hz, fun i hi => by
    obtain rfl : i = 0 := by omega
    exact hb.cell 0⟩, Nat.le_refl _, by unfold maxLen; omega, by omega⟩
theorem toL_one (n : Nat) (p : Nat → Int) : toL n p ++ [p n] = toL (n + 1) p := by
  have : [p n] = toL 1 (fun _ => p n) := rfl
  rw [this, toL_append]
  exact toL_congr fun i hi => by
    by_cases h : i < n
    · rw [if_pos h]
    · rw [if_neg h, show i = n by omega]
section
variable {w : World} {tb gb ob : Nat} {lv : Value} {lg : Nat → Value} {s : St}
set_option maxRecDepth 100000 in
theorem rform_nil {v : Value} {k : Int} (w : World) :
    Calls Try.prog 13 #[.pointer none, v, .int .i64 k] w fun e w' => e = .returned (.tuple #[.slice none 0 0, .slice none 0 0, .int .i64 2]) ∧ w = w' := by
  go_enter Try.func13, Try.ntmps13
  go_wp2_with fail
  (try simp only [Exit.inBlock, Exit.then]); refine bodyPost_ret (results_tmp3 rfl _ _ _) rfl ?_
  exact ⟨rfl, rfl⟩
set_option maxRecDepth 100000 in
set_option maxHeartbeats 8000000 in
theorem rform_any {v : Value} {l : List Int} {k : Int} (hs : RSrc w tb gb ob lv lg s) (h : Ints w v l) :
    Calls Try.prog 13 #[.pointer (some ⟨tb, 0, none⟩), v, .int .i64 k] w fun e w' => ∃ r r', e = .returned (.tuple #[r, r', .int .i64 (form s l k).2.2]) ∧ OwnI w' w.heap.size r (form s l k).1 ∧ OwnR w' w.heap.size r' (form s l k).2.1 ∧ Below w.heap.size w w' := by
  have C0 := Lib.hid (rfits_any hs h)
  have HS := Lib.hid hs
  have HI := Lib.hid h
  have fin := Lib.hid (fun (w' : World) => And.intro (OwnI.nil w' w.heap.size) (OwnR.nil w' w.heap.size))
  unfold form
  by_cases k1 : k < 1
  · rw [if_pos (.inl k1)]
    clear hs h C0
    go_enter Try.func13, Try.ntmps13
    go_wp2_with fail
    (try simp only [Exit.inBlock, Exit.then]); refine bodyPost_ret (results_tmp3 rfl _ _ _) rfl ?_
    exact ⟨_, _, rfl, (fin.out _).1, (fin.out _).2, Below.refl _ _⟩
  · by_cases k2 : 16 < k
    · rw [if_pos (.inr k2)]
      clear hs h C0
      go_enter Try.func13, Try.ntmps13
      go_wp2_with fail
      (try simp only [Exit.inBlock, Exit.then]); refine bodyPost_ret (results_tmp3 rfl _ _ _) rfl ?_
      exact ⟨_, _, rfl, (fin.out _).1, (fin.out _).2, Below.refl _ _⟩
    · rw [if_neg (by omega)]
      cases hf : fits s l with
      | false =>
        rw [hf] at C0
        rw [if_neg (by decide)]
        clear hs h hf
        go_enter Try.func13, Try.ntmps13
        go_wp2_with fail
        refine C0.out.mono ?_
        rintro e w1 ⟨rfl, hb⟩
        go_wp2_with fail
        (try simp only [Exit.inBlock, Exit.then]); refine bodyPost_ret (results_tmp3 rfl _ _ _) rfl ?_
        exact ⟨_, _, rfl, (fin.out _).1, (fin.out _).2, hb⟩
      | true =>
        rw [hf] at C0
        rw [if_pos rfl]
        have hk1 : 1 ≤ k := by omega
        have hk2 : k ≤ 16 := by omega
        have hf1 := of_decide_eq_true hf
        have HL : Hid (l.length = s.n) := Lib.hid hf1.1
        have HF : Hid (∀ i, i < s.n → 0 ≤ l.getD i 0 ∧ l.getD i 0 ≤ nxt s l k i ∧ nxt s l k i ≤ (s.log i).length) := Lib.hid (fun i hi => nxt_ok HS.out.ok hk1 hk2 hi (hf1.2 i (by rw [hf1.1]; exact hi)))
        have HD : Hid (∀ i, i < s.n → 0 ≤ l.getD i 0 ∧ l.getD i 0 ≤ (s.log i).length) := Lib.hid (fun i hi => hf1.2 i (by rw [hf1.1]; exact hi))
        obtain ⟨a, n, cap, b, o, p, rfl, hlp, ha, hr, hc, hm⟩ := h
        obtain rfl : s.n = n := by rw [← HL.out, hlp, toL_len]
        have hn4 := HS.out.ok.n4
        have HP : Hid (∀ i, i < s.n → l.getD i 0 = p i) := Lib.hid (fun i hi => by rw [hlp, toL_getD hi])
        have HR := Lib.hid hr
        have HA := Lib.hid ha
        obtain ⟨N, hN⟩ : ∃ N, s.n = N := ⟨_, rfl⟩
        have HN := Lib.hid hN
        clear hs hlp hc hm hr ha hf hf1 fin
        rw [hN] at HF HD HP HR HA hn4 C0 HI
        rw [hN]
        clear hN
        go_enter Try.func13, Try.ntmps13
        go_wp2_with fail
        refine C0.out.mono ?_
        rintro e w1 ⟨rfl, hb⟩
        clear C0
        go_wp2_with fail
        go_loopg [9, 10] N (fun g s9 s10 wr => ∃ (i : Nat), i ≤ N ∧ g = N - i ∧ s10 = .int .i64 i ∧ OwnI wr w.heap.size s9 (toL i (nxt s l k)) ∧ Below w.heap.size w wr)
        case atStart => exact ⟨0, Nat.zero_le _, rfl, rfl, (OwnI.made w1).base hb.size, hb.trans ((bel_alloc1 _ _).mono hb.size)⟩
        case round =>
          clear hb
          obtain ⟨i, hi, rfl, rfl, own, q⟩ := hrel
          have HO := Lib.hid own
          by_cases hlt : i < N
          · obtain rfl := HA.out (by omega)
            have hz2 : (i : Int) < (N : Int) := by omega
            have hw1 : IntKind.i64.wrap ((i : Int) + 1) = (i : Int) + 1 := Go.IntWalk.i64_in _ (by omega)
            have hi' : i < s.n := HN.out ▸ hlt
            have r1 := HR.out (by omega)
            have x0 : wr.cell? ⟨b, o + i, none⟩ = some (.int .i64 (p i)) := (q.cell (p := ⟨b, o + i, none⟩) r1.lt).trans (r1.c i hlt)
            have z1 : b < wr.heap.size := Nat.lt_of_lt_of_le r1.lt q.size
            have C4 := Lib.hid (rup_any (HS.out.keep q) (p := i) hi')
            have C5 := Lib.hid (rlen_any (HS.out.keep q) (p := i) hi')
            have hd := HD.out i hlt
            have hfz := HF.out i hlt
            have hpi := HP.out i hlt
            rw [hpi] at hd hfz
            have HDD := Lib.hid hd
            have hll := HS.out.ok.le i hi'
            have HLL := Lib.hid hll
            have HE : Hid (toL i (nxt s l k) ++ [nxt s l k i] = toL (i + 1) (nxt s l k)) := Lib.hid (toL_one _ _)
            have HZ : Hid (-9223372036854775808 ≤ nxt s l k i ∧ nxt s l k i ≤ 9223372036854775807) := Lib.hid (by omega)
            have HX : Hid (nxt s l k i = if s.off i = true then p i else min (p i + k) (s.log i).length) := Lib.hid (by unfold nxt; rw [hpi])
            clear r1 own hd hfz hpi hll
            generalize hzz : nxt s l k i = zz at *
            clear hzz
            generalize hof : s.off i = of at *
            generalize hlo : (s.log i).length = m at *
            clear hof hlo
            obtain ⟨K, hK⟩ : ∃ K : Nat, (K : Int) = k := ⟨k.toNat, by omega⟩
            subst hK
            go_wp2_with fail
            go_loopg [11, 12] K (fun g s11 s12 w' => ∃ (j : Nat), j ≤ K ∧ g = K - j ∧ s12 = .int .i64 j ∧ s11 = .int .i64 (p i + j) ∧ (of = true → j = 0) ∧ (of = false → p i + j ≤ m) ∧ w' = wr)
            case atStart => exact ⟨0, Nat.zero_le _, rfl, rfl, by simp, fun _ => rfl, fun _ => by have := HDD.out; omega, rfl⟩
            case round =>
              obtain ⟨j, hj, rfl, rfl, rfl, ho1, ho2, rfl⟩ := hrel
              have HO1 := Lib.hid ho1
              have HO2 := Lib.hid ho2
              clear ho1 ho2
              by_cases hjl : j < K
              · have hz3 : (j : Int) < (K : Int) := by omega
                have hw2 : IntKind.i64.wrap ((j : Int) + 1) = (j : Int) + 1 := Go.IntWalk.i64_in _ (by omega)
                have hw3 : IntKind.i64.wrap (p i + (j : Int) + 1) = p i + (j : Int) + 1 := Go.IntWalk.i64_in _ (by have := HDD.out; have := HLL.out; omega)
                cases of with
                | true =>
                  obtain rfl := HO1.out rfl
                  obtain rfl : zz = p i := HX.out.trans (if_pos rfl)
                  have hpp : p i + ((0 : Nat) : Int) = p i := by omega
                  rw [hpp]
                  go_wp2_with fail
                  refine C4.out.mono ?_
                  rintro e w' ⟨rfl, rfl⟩
                  clear C4 C5 HX HO1 HO2
                  go_wp2_with (at_builtin; refine wpList_append_ints rfl (.tmp 55) (.tmp 57) rfl rfl rfl rfl (HO.out.keep (bel_alloc1 _ _)) (single_int _ _ HZ.out) (by have := q.size; simp; omega) (by rw [toL_len, List.length_singleton]; omega) ?_; intro v' w3 own3 grow3 hat)
                  have p3 : Below w.heap.size w w3 := (bel_alloc q _).grown grow3 (by have := q.size; simp; omega) (fun k hk => (HO.out.lt k hk).1)
                  rw [HE.out] at own3
                  clear grow3 hat
                  go_roundg (N - (i + 1))
                  case measure => omega
                  case rel => exact ⟨i + 1, hlt, rfl, (by first | rfl | simp), own3, p3⟩
                | false =>
                  by_cases hlm : p i + (j : Int) < (m : Int)
                  · have HP2 : Hid (p i + ((j + 1 : Nat) : Int) ≤ (m : Int)) := Lib.hid (by omega)
                    clear HO1 HO2 HX
                    go_wp2_with fail
                    refine C4.out.mono ?_
                    rintro e w' ⟨rfl, rfl⟩
                    go_wp2_with fail
                    refine C5.out.mono ?_
                    rintro e w' ⟨rfl, rfl⟩
                    go_wp2_with fail
                    go_roundg (K - (j + 1))
                    case measure => omega
                    case rel => exact ⟨j + 1, hjl, rfl, (by first | rfl | simp), (by simp; omega), (fun h => by cases h), (fun _ => HP2.out), rfl⟩
                  · obtain rfl : zz = p i + (j : Int) := by
                      have h1 := HX.out
                      have h2 := HO2.out rfl
                      rw [if_neg (by decide)] at h1
                      omega
                    clear HO1 HO2 HX
                    have hlm2 : (p i + (j : Int) < (m : Int)) = False := eq_false hlm
                    clear hlm
                    go_wp2_with fail
                    refine C4.out.mono ?_
                    rintro e w' ⟨rfl, rfl⟩
                    go_wp2_with fail
                    refine C5.out.mono ?_
                    rintro e w' ⟨rfl, rfl⟩
                    clear C4 C5
                    go_wp2_with (at_builtin; refine wpList_append_ints rfl (.tmp 55) (.tmp 57) rfl rfl rfl rfl (HO.out.keep (bel_alloc1 _ _)) (single_int _ _ HZ.out) (by have := q.size; simp; omega) (by rw [toL_len, List.length_singleton]; omega) ?_; intro v' w3 own3 grow3 hat)
                    have p3 : Below w.heap.size w w3 := (bel_alloc q _).grown grow3 (by have := q.size; simp; omega) (fun k hk => (HO.out.lt k hk).1)
                    rw [HE.out] at own3
                    clear grow3 hat
                    go_roundg (N - (i + 1))
                    case measure => omega
                    case rel => exact ⟨i + 1, hlt, rfl, (by first | rfl | simp), own3, p3⟩
              · obtain rfl : j = K := by omega
                have hz3 : ¬ ((j : Int) < (j : Int)) := by omega
                obtain rfl : zz = p i + (j : Int) := by
                  have h1 := HX.out
                  cases of with
                  | true => have := HO1.out rfl; omega
                  | false =>
                    have h2 := HO2.out rfl
                    rw [if_neg (by decide)] at h1
                    omega
                clear HO1 HO2 HX
                clear C4 C5
                go_wp2_with (at_builtin; refine wpList_append_ints rfl (.tmp 55) (.tmp 57) rfl rfl rfl rfl (HO.out.keep (bel_alloc1 _ _)) (single_int _ _ HZ.out) (by have := q.size; simp; omega) (by rw [toL_len, List.length_singleton]; omega) ?_; intro v' w3 own3 grow3 hat)
                have p3 : Below w.heap.size w w3 := (bel_alloc q _).grown grow3 (by have := q.size; simp; omega) (fun k hk => (HO.out.lt k hk).1)
                rw [HE.out] at own3
                clear grow3 hat
                go_roundg (N - (i + 1))
                case measure => omega
                case rel => exact ⟨i + 1, hlt, rfl, (by first | rfl | simp), own3, p3⟩
          · obtain rfl : i = N := by omega
            have hz2 : ¬ ((i : Int) < (i : Int)) := by omega
            have HO2 : Hid (OwnI wr w.heap.size u9 (tos s l k)) := Lib.hid (by unfold tos; rw [HN.out]; exact HO.out)
            have C3 := Lib.hid (rbetween_any (HS.out.keep q) (HI.out.keep q) HO2.out.ints HL.out (by unfold tos; exact toL_len) (fun j hj => by
              have := HF.out j (HN.out ▸ hj)
              unfold tos
              rw [toL_getD hj]
              exact this))
            rw [HN.out] at C3
            have hbase := q.size
            clear own HO hi hn4
            go_wp2_with fail
            refine C3.out.mono ?_
            rintro e w4 ⟨r', rfl, own4, b4⟩
            have p4 : Below w.heap.size w w4 := q.trans (b4.mono q.size)
            have own5 := HO2.out.keep b4
            have own6 := own4.base hbase
            clear C3 HO2 own4 b4
            go_wp2_with fail
            (try simp only [Exit.inBlock, Exit.then]); refine bodyPost_ret (results_tmp3 rfl _ _ _) rfl ?_
            exact ⟨_, _, rfl, own5, own6, p4⟩
end
end Go.Proofs.Ytbckfoldjlgabaa
namespace Go.Proofs.Ytbckfoldjlgabaa
open Go.RowKit
open Fl (nan key canon)
section
variable {w : World} {tb gb ob : Nat} {lv : Value} {lg : Nat → Value} {s : St}
set_option maxRecDepth 100000 in
set_option maxHeartbeats 4000000 in
theorem ragain_any {v v' : Value} {l l' : List Int} (hs : RSrc w tb gb ob lv lg s) (h : Ints w v l) (h' : Ints w v' l') :
    Calls Try.prog 20 #[.pointer (some ⟨tb, 0, none⟩), v, v'] w fun e w' => ∃ r, e = .returned (.tuple #[r, .int .i64 (again s l l').2]) ∧ OwnR w' w.heap.size r (again s l l').1 ∧ Below w.heap.size w w' := by
  have C0 := Lib.hid (fun W (hW : Below w.heap.size w W) => rfits_any (hs.keep hW) (h.keep hW))
  have C1 := Lib.hid (fun W (hW : Below w.heap.size w W) => rfits_any (hs.keep hW) (h'.keep hW))
  have C2 := Lib.hid (fun W (hW : Below w.heap.size w W) => rforward_any W (h.keep hW) (h'.keep hW))
  have C3 := Lib.hid (fun (h1 : fits s l = true) (h2 : fits s l' = true) (h3 : fwd l l' = true) W (hW : Below w.heap.size w W) => rbetween_any (hs.keep hW) (h.keep hW) (h'.keep hW) (again_in h1 h2 h3).1 (again_in h1 h2 h3).2.1 (again_in h1 h2 h3).2.2)
  have fin := Lib.hid (fun (w' : World) => OwnR.nil w' w.heap.size)
  clear hs h h'
  unfold again
  cases h1 : fits s l with
  | true =>
    cases h2 : fits s l' with
    | true =>
      cases h3 : fwd l l' with
      | true =>
        have C4 := Lib.hid (C3.out h1 h2 h3)
        rw [h1] at C0
        rw [h2] at C1
        rw [h3] at C2
        rw [if_pos ⟨rfl, rfl, rfl⟩]
        clear h1 h2 h3 C3 fin
        go_enter Try.func20, Try.ntmps20
        go_wp2_with fail
        refine (C0.out _ (by repeat' (first | with_reducible exact Below.refl _ _ | with_reducible assumption | with_reducible refine bel_drew ?_ | with_reducible refine bel_alloc ?_ _ | with_reducible refine bel_set ?_ ?_ _ | with_reducible refine bel_call ?_ (by assumption) | (dsimp only; omega) | (simp; done) | (simp; omega)))).mono ?_
        rintro e w1 ⟨rfl, hb⟩
        have p1 : Below w.heap.size w w1 := (by repeat' (first | with_reducible exact Below.refl _ _ | with_reducible assumption | with_reducible refine bel_drew ?_ | with_reducible refine bel_alloc ?_ _ | with_reducible refine bel_set ?_ ?_ _ | with_reducible refine bel_call ?_ (by assumption) | (dsimp only; omega) | (simp; done) | (simp; omega)))
        clear hb
        go_wp2_with fail
        refine (C1.out _ p1).mono ?_
        rintro e w2 ⟨rfl, hb⟩
        have p2 : Below w.heap.size w w2 := (by repeat' (first | with_reducible exact Below.refl _ _ | with_reducible assumption | with_reducible refine bel_drew ?_ | with_reducible refine bel_alloc ?_ _ | with_reducible refine bel_set ?_ ?_ _ | with_reducible refine bel_call ?_ (by assumption) | (dsimp only; omega) | (simp; done) | (simp; omega)))
        clear hb
        go_wp2_with fail
        refine (C2.out _ p2).mono ?_
        rintro e w3 ⟨rfl, hb⟩
        have p3 : Below w.heap.size w w3 := (by repeat' (first | with_reducible exact Below.refl _ _ | with_reducible assumption | with_reducible refine bel_drew ?_ | with_reducible refine bel_alloc ?_ _ | with_reducible refine bel_set ?_ ?_ _ | with_reducible refine bel_call ?_ (by assumption) | (dsimp only; omega) | (simp; done) | (simp; omega)))
        have n3 := p3.size
        clear hb
        go_wp2_with fail
        refine (C4.out _ p3).mono ?_
        rintro e w4 ⟨r, rfl, own, hb⟩
        have p4 : Below w.heap.size w w4 := (by repeat' (first | with_reducible exact Below.refl _ _ | with_reducible assumption | with_reducible refine bel_drew ?_ | with_reducible refine bel_alloc ?_ _ | with_reducible refine bel_set ?_ ?_ _ | with_reducible refine bel_call ?_ (by assumption) | (dsimp only; omega) | (simp; done) | (simp; omega)))
        go_wp2_with fail
        go_ret2
        exact ⟨_, rfl, own.base n3, p4⟩
      | false =>
        rw [h1] at C0
        rw [h2] at C1
        rw [h3] at C2
        rw [if_neg (by rintro ⟨_, _, h⟩; cases h)]
        clear h1 h2 h3 C3
        go_enter Try.func20, Try.ntmps20
        go_wp2_with fail
        refine (C0.out _ (by repeat' (first | with_reducible exact Below.refl _ _ | with_reducible assumption | with_reducible refine bel_drew ?_ | with_reducible refine bel_alloc ?_ _ | with_reducible refine bel_set ?_ ?_ _ | with_reducible refine bel_call ?_ (by assumption) | (dsimp only; omega) | (simp; done) | (simp; omega)))).mono ?_
        rintro e w1 ⟨rfl, hb⟩
        have p1 : Below w.heap.size w w1 := (by repeat' (first | with_reducible exact Below.refl _ _ | with_reducible assumption | with_reducible refine bel_drew ?_ | with_reducible refine bel_alloc ?_ _ | with_reducible refine bel_set ?_ ?_ _ | with_reducible refine bel_call ?_ (by assumption) | (dsimp only; omega) | (simp; done) | (simp; omega)))
        clear hb
        go_wp2_with fail
        refine (C1.out _ p1).mono ?_
        rintro e w2 ⟨rfl, hb⟩
        have p2 : Below w.heap.size w w2 := (by repeat' (first | with_reducible exact Below.refl _ _ | with_reducible assumption | with_reducible refine bel_drew ?_ | with_reducible refine bel_alloc ?_ _ | with_reducible refine bel_set ?_ ?_ _ | with_reducible refine bel_call ?_ (by assumption) | (dsimp only; omega) | (simp; done) | (simp; omega)))
        clear hb
        go_wp2_with fail
        refine (C2.out _ p2).mono ?_
        rintro e w3 ⟨rfl, hb⟩
        have p3 : Below w.heap.size w w3 := (by repeat' (first | with_reducible exact Below.refl _ _ | with_reducible assumption | with_reducible refine bel_drew ?_ | with_reducible refine bel_alloc ?_ _ | with_reducible refine bel_set ?_ ?_ _ | with_reducible refine bel_call ?_ (by assumption) | (dsimp only; omega) | (simp; done) | (simp; omega)))
        clear hb
        go_wp2_with fail
        go_ret2
        exact ⟨_, rfl, fin.out _, p3⟩
    | false =>
      rw [h1] at C0
      rw [h2] at C1
      rw [if_neg (by rintro ⟨_, h, _⟩; cases h)]
      clear h1 h2 C3 C2
      go_enter Try.func20, Try.ntmps20
      go_wp2_with fail
      refine (C0.out _ (by repeat' (first | with_reducible exact Below.refl _ _ | with_reducible assumption | with_reducible refine bel_drew ?_ | with_reducible refine bel_alloc ?_ _ | with_reducible refine bel_set ?_ ?_ _ | with_reducible refine bel_call ?_ (by assumption) | (dsimp only; omega) | (simp; done) | (simp; omega)))).mono ?_
      rintro e w1 ⟨rfl, hb⟩
      have p1 : Below w.heap.size w w1 := (by repeat' (first | with_reducible exact Below.refl _ _ | with_reducible assumption | with_reducible refine bel_drew ?_ | with_reducible refine bel_alloc ?_ _ | with_reducible refine bel_set ?_ ?_ _ | with_reducible refine bel_call ?_ (by assumption) | (dsimp only; omega) | (simp; done) | (simp; omega)))
      clear hb
      go_wp2_with fail
      refine (C1.out _ p1).mono ?_
      rintro e w2 ⟨rfl, hb⟩
      have p2 : Below w.heap.size w w2 := (by repeat' (first | with_reducible exact Below.refl _ _ | with_reducible assumption | with_reducible refine bel_drew ?_ | with_reducible refine bel_alloc ?_ _ | with_reducible refine bel_set ?_ ?_ _ | with_reducible refine bel_call ?_ (by assumption) | (dsimp only; omega) | (simp; done) | (simp; omega)))
      clear hb
      go_wp2_with fail
      go_ret2
      exact ⟨_, rfl, fin.out _, p2⟩
  | false =>
    rw [h1] at C0
    rw [if_neg (by rintro ⟨h, _, _⟩; cases h)]
    clear h1 C3 C2 C1
    go_enter Try.func20, Try.ntmps20
    go_wp2_with fail
    refine (C0.out _ (by repeat' (first | with_reducible exact Below.refl _ _ | with_reducible assumption | with_reducible refine bel_drew ?_ | with_reducible refine bel_alloc ?_ _ | with_reducible refine bel_set ?_ ?_ _ | with_reducible refine bel_call ?_ (by assumption) | (dsimp only; omega) | (simp; done) | (simp; omega)))).mono ?_
    rintro e w1 ⟨rfl, hb⟩
    have p1 : Below w.heap.size w w1 := (by repeat' (first | with_reducible exact Below.refl _ _ | with_reducible assumption | with_reducible refine bel_drew ?_ | with_reducible refine bel_alloc ?_ _ | with_reducible refine bel_set ?_ ?_ _ | with_reducible refine bel_call ?_ (by assumption) | (dsimp only; omega) | (simp; done) | (simp; omega)))
    clear hb
    go_wp2_with fail
    go_ret2
    exact ⟨_, rfl, fin.out _, p1⟩
set_option maxRecDepth 100000 in
set_option maxHeartbeats 4000000 in
theorem rleft_any {v : Value} {l : List Int} (hs : RSrc w tb gb ob lv lg s) (h : Ints w v l) :
    Calls Try.prog 21 #[.pointer (some ⟨tb, 0, none⟩), v] w fun e w' => e = .returned (.tuple #[.int .i64 (left s l).1, .int .i64 (left s l).2]) ∧ Below w.heap.size w w' := by
  have C0 := Lib.hid (rfits_any hs h)
  have C1 := Lib.hid (fun W (hW : Below w.heap.size w W) i hi => rlen_any (hs.keep hW) (p := i) hi)
  unfold left
  cases hf : fits s l with
  | true =>
    rw [hf] at C0
    rw [if_pos rfl]
    have HD := Lib.hid (of_decide_eq_true hf)
    have HL := Lib.hid (lsum_in hs.ok hf)
    have hn4 := hs.ok.n4
    have HLE := Lib.hid hs.ok.le
    obtain ⟨a, n, cap, b, o, p, rfl, hlp, ha, hr, hc, hm⟩ := h
    obtain rfl : s.n = n := by rw [← HD.out.1, hlp, toL_len]
    have HP : Hid (∀ i, i < s.n → l.getD i 0 = p i) := Lib.hid (fun i hi => by rw [hlp, toL_getD hi])
    have HR := Lib.hid hr
    have HA := Lib.hid ha
    obtain ⟨N, hN⟩ : ∃ N, s.n = N := ⟨_, rfl⟩
    have HN := Lib.hid hN
    clear hs hlp hc hm hr ha hf
    rw [hN] at HD HL hn4 HP HR HA C1 C0 HLE
    rw [hN]
    clear hN
    go_enter Try.func21, Try.ntmps21
    go_wp2_with fail
    refine C0.out.mono ?_
    rintro e w1 ⟨rfl, hb⟩
    clear C0
    go_wp2_with fail
    go_loopg [6, 7] N (fun g s6 s7 wr => ∃ (i : Nat), i ≤ N ∧ g = N - i ∧ s7 = .int .i64 i ∧ s6 = .int .i64 (lsum s l i) ∧ Below w.heap.size w wr)
    case atStart => exact ⟨0, Nat.zero_le _, rfl, rfl, rfl, hb⟩
    case round =>
      clear hb
      obtain ⟨i, hi, rfl, rfl, rfl, q⟩ := hrel
      by_cases hlt : i < N
      · obtain rfl := HA.out (by omega)
        have hz2 : (i : Int) < (N : Int) := by omega
        have hw1 : IntKind.i64.wrap ((i : Int) + 1) = (i : Int) + 1 := Go.IntWalk.i64_in _ (by omega)
        have r1 := HR.out (by omega)
        have x0 : wr.cell? ⟨b, o + i, none⟩ = some (.int .i64 (p i)) := (q.cell (p := ⟨b, o + i, none⟩) r1.lt).trans (r1.c i hlt)
        have z1 : b < wr.heap.size := Nat.lt_of_lt_of_le r1.lt q.size
        have C3 := Lib.hid (fun W (hW : Below w.heap.size w W) => C1.out W hW i hlt)
        have hE : lsum s l (i + 1) = lsum s l i + ((s.log i).length - p i) := by
          show lsum s l i + _ = _
          rw [HP.out i hlt]
        have hE1 := HL.out i hi
        have hE2 := HL.out (i + 1) hlt
        have hd := HD.out.2 i (by rw [HD.out.1]; exact hlt)
        have hll := HLE.out i hlt
        rw [HP.out i hlt] at hd
        have hw2 : IntKind.i64.wrap (lsum s l i + ((s.log i).length : Int)) = lsum s l i + ((s.log i).length : Int) := Go.IntWalk.i64_in _ (by omega)
        have hw3 : IntKind.i64.wrap (lsum s l i + ((s.log i).length : Int) - p i) = lsum s l (i + 1) := by rw [hE, show lsum s l i + ((s.log i).length - p i) = lsum s l i + ((s.log i).length : Int) - p i by omega]; exact Go.IntWalk.i64_in _ (by omega)
        clear r1 HR HA C1 hE hE1 hE2 hd hll HL HD HP HLE
        generalize lsum s l i = m1 at *
        obtain ⟨m2, hm2⟩ : ∃ m2, lsum s l (i + 1) = m2 := ⟨_, rfl⟩
        rw [hm2] at hw3
        have HM2 := Lib.hid hm2
        clear hm2
        generalize (s.log i).length = m3 at *
        go_wp2_with fail
        refine wp_region_below (by kernel_rfl) (by kernel_rfl) ?_
        iterate 11 (first | (refine lex_skip (by rfl) (fun _ _ _ _ h => h) ?_; simp only [Act.put, List.setIfInBounds_toArray, List.set_cons_zero, List.set_cons_succ]) | (refine lex_op (by rfl) ?_; apply Exists.intro; refine ⟨?_, ?_⟩; ((intro _ _ _ _ hT; obtain ⟨hc, hf⟩ := bcell hT; go_simp; first | exact rfl | exact call_same hT (C3.out _ (q.trans (hT.mono q.size))))); simp only [Act.put, List.setIfInBounds_toArray, List.set_cons_zero, List.set_cons_succ]))
        refine lex_nil ?_
        intro w2 bel2
        have p2 : Below w.heap.size w w2 := q.trans (bel2.mono q.size)
        clear bel2
        go_wp2_with fail
        go_roundg (N - (i + 1))
        case measure => omega
        case rel => exact ⟨i + 1, hlt, rfl, (by first | rfl | simp), by rw [HM2.out], p2⟩
      · obtain rfl : i = N := by omega
        have hz2 : ¬ ((i : Int) < (i : Int)) := by omega
        go_wp2_with fail
        go_ret2
        exact ⟨rfl, q⟩
  | false =>
    rw [hf] at C0
    rw [if_neg (by decide)]
    clear hf hs h C1
    go_enter Try.func21, Try.ntmps21
    go_wp2_with fail
    refine C0.out.mono ?_
    rintro e w1 ⟨rfl, hb⟩
    go_wp2_with fail
    go_ret2
    exact ⟨rfl, hb⟩
end
end Go.Proofs.Ytbckfoldjlgabaa
