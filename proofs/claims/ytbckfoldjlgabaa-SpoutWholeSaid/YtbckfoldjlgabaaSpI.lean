/- WALKS of law07: Form, Again, Left. WALKS of law07: Again, Left. WALKS of law07: the document's source, read. -/
import Derived.Test.YtbckfoldjlgabaaSpF
import Derived.LoopN
namespace Go.Proofs.Ytbckfoldjlgabaa
open Go.RowKit
open Fl (nan key canon)
/-- a row of the call's own, its block known whole -/
theorem ownsRow_blk {w : World} {base m g n cap : Nat} {e : TypeId} {xs : List Value} (h : w.ownsRow base e m (.slice (some ⟨g, 0, none⟩) n cap) n xs) :
    xs.length = n * m ∧ base ≤ g ∧ n ≤ cap ∧ cap ≤ maxLen ∧ ∃ rest, rest.length = (cap - n) * m ∧ Blk w g (xs ++ rest) e := by
  refine ⟨h.1, ?_⟩
  rcases h.2 with ⟨h', _⟩ | ⟨g', cap', cur, h', h1, h2, h3, h4, h5, h6⟩
  · simp at h'
  · simp only [Value.slice.injEq, Option.some.injEq, Addr.mk.injEq, and_true, true_and] at h'
    obtain ⟨rfl, rfl⟩ := h'
    refine ⟨h1, h3, h4, cur.toList.drop (n * m), ?_, ⟨?_⟩⟩
    · rw [List.length_drop, Array.length_toList, h5, Nat.sub_mul]
    · rw [← h6, List.take_append_drop]; exact h2
theorem blk_ownsRow {w : World} {base m g n cap : Nat} {e : TypeId} {xs rest : List Value} (h1 : xs.length = n * m) (h2 : base ≤ g) (h3 : n ≤ cap) (h4 : cap ≤ maxLen) (h5 : rest.length = (cap - n) * m) (h : Blk w g (xs ++ rest) e) :
    w.ownsRow base e m (.slice (some ⟨g, 0, none⟩) n cap) n xs := by
  refine ⟨h1, .inr ⟨g, cap, (xs ++ rest).toArray, rfl, h2, h.lies, h3, h4, ?_, ?_⟩⟩
  · rw [List.size_toArray, List.length_append, h1, h5, ← Nat.add_mul]
    congr 1
    omega
  · rw [← h1]; exact List.take_left
theorem results_tmp3 {fn : Func} {t u x : Tmp} (h : fn.results = #[.tmp t, .tmp u, .tmp x]) (tmps : Array Value) (P : Program) (w : World) :
    (results fn tmps).run P w = .ok (.tuple #[tmps.getD t undef, tmps.getD u undef, tmps.getD x undef]) w := by
  simp [results, h]
/-- the worlds of a region that stores one cell -/
structure PutC (w0 : World) (b j : Nat) (cs zs : List Value) (t : TypeId) (L : Nat → Bool) (w' : World) : Prop where
  bel : Below w0.heap.size w0 w'
  blk : Blk w' b (if L j then cs else zs) t
section
variable {w0 w' : World} {b j : Nat} {cs zs : List Value} {t : TypeId} {L : Nat → Bool}
theorem PutC.begin (n : Nat) (hj : j < n) (hb : Below w0.heap.size w0 w') (h : Blk w' b zs t) : PutC w0 b j cs zs t (fun k => decide (n ≤ k)) w'.drew :=
  ⟨bel_drew hb, by rw [decide_eq_false (by omega), if_neg (by decide)]; exact h.drew⟩
theorem PutC.upd (h : PutC w0 b j cs zs t L w') {k : Nat} (hk : k ≠ j) : PutC w0 b j cs zs t (upd L k) w' := ⟨h.bel, by rw [upd_other L (Ne.symm hk)]; exact h.blk⟩
theorem PutC.store (h : PutC w0 b j cs zs t L w') (hL : L j = false) (hb : w0.heap.size ≤ b) {i : Nat} {c : Value} (he : zs.set i c = cs) : PutC w0 b j cs zs t (Go.Proofs.Ytbckfoldjlgabaa.upd L j) (w'.setCell ⟨b, i, none⟩ c) := by
  have h2 := h.blk
  rw [hL, if_neg (by decide)] at h2
  refine ⟨bel_set h.bel hb _, ?_⟩
  rw [upd_same, if_pos rfl, ← he]
  exact h2.set i c
end
theorem inc_set {n i : Nat} {p p' : Nat → Int} {rest : List Value} (hi : i < n) (h : ∀ j, j < n → j ≠ i → p j = p' j) : (flat (inc p) n ++ rest).set i (.int .i64 (p' i)) = flat (inc p') n ++ rest := by
  have hl : (flat (inc p) n).length = n := by rw [flat_len (inc_len p)]; omega
  have hl' : (flat (inc p') n).length = n := by rw [flat_len (inc_len p')]; omega
  rw [List.set_append_left _ _ (by rw [hl]; exact hi)]
  congr 1
  apply List.ext_getElem?
  intro k
  by_cases hk : k < n
  · have e1 := flat_get (el := inc p') (inc_len p') (k := 0) (by decide) hk
    have e2 := flat_get (el := inc p) (inc_len p) (k := 0) (by decide) hk
    rw [Nat.mul_one, Nat.add_zero] at e1 e2
    rw [List.getElem?_set]
    by_cases hik : i = k
    · subst hik
      rw [if_pos rfl, if_pos (by rw [hl]; exact hi), e1]; rfl
    · rw [if_neg hik, e1, e2]
      simp only [inc, h k hk (Ne.symm hik)]
  · rw [List.getElem?_eq_none (by rw [List.length_set, hl]; omega), List.getElem?_eq_none (by rw [hl']; omega)]
theorem inc_at {n i : Nat} {p : Nat → Int} {rest : List Value} (hi : i < n) : (flat (inc p) n ++ rest)[i]? = some (.int .i64 (p i)) := by
  have hl : (flat (inc p) n).length = n := by rw [flat_len (inc_len p)]; omega
  have e2 := flat_get (el := inc p) (inc_len p) (k := 0) (by decide) hi
  rw [Nat.mul_one, Nat.add_zero] at e2
  rw [List.getElem?_append_left (by rw [hl]; exact hi), e2]; rfl
/-- where a batch ends -/
def nxt (s : St) (l : List Int) (k : Int) (i : Nat) : Int := if s.off i = true then l.getD i 0 else min (l.getD i 0 + k) (s.log i).length
def tos (s : St) (l : List Int) (k : Int) : List Int := toL s.n (nxt s l k)
/-- what Form answers -/
def form (s : St) (l : List Int) (k : Int) : List Int × List Rc × Int :=
  if k < 1 ∨ 16 < k then ([], [], 1) else if fits s l = true then (tos s l k, betw s l (tos s l k) s.n, 0) else ([], [], 70)
section
variable {w : World} {sb pb : Nat} {lv mv : Value} {lg : Nat → Value} {s : St}
theorem nxt_ok {s : St} (hs : s.ok) {l : List Int} {k : Int} (h0 : 1 ≤ k) (h1 : k ≤ 16) {i : Nat} (hi : i < s.n) (hf : 0 ≤ l.getD i 0 ∧ l.getD i 0 ≤ (s.log i).length) :
    0 ≤ l.getD i 0 ∧ l.getD i 0 ≤ nxt s l k i ∧ nxt s l k i ≤ (s.log i).length := by
  have := hs.le i hi
  unfold nxt
  split
  · omega
  · omega
set_option maxRecDepth 100000 in
theorem sform_nil {v : Value} {k : Int} (w : World) :
    Calls Try.prog 11 #[.pointer none, v, .int .i64 k] w fun e w' => e = .returned (.tuple #[.slice none 0 0, .slice none 0 0, .int .i64 2]) ∧ w = w' := by
  have C0 := Lib.hid (check_nil v w)
  go_enter Try.func11, Try.ntmps11
  go_wp2_with fail
  refine C0.out.mono ?_
  rintro e w' ⟨rfl, rfl⟩
  go_wp2_with fail
  (try simp only [Exit.inBlock, Exit.then]); refine bodyPost_ret (results_tmp3 rfl _ _ _) rfl ?_
  exact ⟨rfl, rfl⟩
set_option maxRecDepth 100000 in
set_option maxHeartbeats 4000000 in
theorem sform_any {v : Value} {l : List Int} {k : Int} (hs : Src w sb pb lv mv lg s) (h : Ints w v l) :
    Calls Try.prog 11 #[.pointer (some ⟨sb, 0, none⟩), v, .int .i64 k] w fun e w' => ∃ r r', e = .returned (.tuple #[r, r', .int .i64 (form s l k).2.2]) ∧ OwnI w' w.heap.size r (form s l k).1 ∧ OwnR w' w.heap.size r' (form s l k).2.1 ∧ Below w.heap.size w w' := by
  have C0 := Lib.hid (scheck_any hs h)
  have HS := Lib.hid hs
  have HI := Lib.hid h
  clear hs h
  have fin := Lib.hid (fun (w' : World) => And.intro (OwnI.nil w' w.heap.size) (OwnR.nil w' w.heap.size))
  unfold form
  by_cases k1 : k < 1
  · rw [if_pos (.inl k1)]
    by_cases hf : fits s l = true
    all_goals
      first | rw [if_pos hf] at C0 | rw [if_neg hf] at C0
      clear hf
      go_enter Try.func11, Try.ntmps11
      go_wp2_with fail
      refine C0.out.mono ?_
      rintro e w' ⟨rfl, rfl⟩
      go_wp2_with fail
      (try simp only [Exit.inBlock, Exit.then]); refine bodyPost_ret (results_tmp3 rfl _ _ _) rfl ?_
      exact ⟨_, _, rfl, (fin.out _).1, (fin.out _).2, Below.refl _ _⟩
  · by_cases k2 : 16 < k
    · rw [if_pos (.inr k2)]
      by_cases hf : fits s l = true
      all_goals
        first | rw [if_pos hf] at C0 | rw [if_neg hf] at C0
        clear hf
        go_enter Try.func11, Try.ntmps11
        go_wp2_with fail
        refine C0.out.mono ?_
        rintro e w' ⟨rfl, rfl⟩
        go_wp2_with fail
        (try simp only [Exit.inBlock, Exit.then]); refine bodyPost_ret (results_tmp3 rfl _ _ _) rfl ?_
        exact ⟨_, _, rfl, (fin.out _).1, (fin.out _).2, Below.refl _ _⟩
    · rw [if_neg (by omega)]
      by_cases hf : fits s l = true
      · rw [if_pos hf] at C0
        rw [if_pos hf]
        have hk1 : 1 ≤ k := by omega
        have hk2 : k ≤ 16 := by omega
        have hf1 := of_decide_eq_true hf
        have HL : Hid (l.length = s.n) := Lib.hid hf1.1
        have HF : Hid (∀ i, i < s.n → 0 ≤ l.getD i 0 ∧ l.getD i 0 ≤ nxt s l k i ∧ nxt s l k i ≤ (s.log i).length) := Lib.hid (fun i hi => nxt_ok HS.out.ok hk1 hk2 hi (hf1.2 i (by rw [hf1.1]; exact hi)))
        have C1 := Lib.hid (clone_ints w HI.out)
        clear hf hf1 fin
        go_enter Try.func11, Try.ntmps11
        go_wp2_with fail
        refine C0.out.mono ?_
        rintro e w' ⟨rfl, rfl⟩
        go_wp2_with fail
        refine C1.out.mono ?_
        rintro e w1 ⟨v1, rfl, own1, b1⟩
        obtain ⟨n, p, hlp, hp, ho, hn⟩ := own1
        obtain rfl : s.n = n := by rw [← HL.out, hlp, toL_len]
        have hn4 := HS.out.ok.n4
        have hn1 := HS.out.ok.n1
        rcases ho.2 with ⟨rfl, h0⟩ | ⟨g, cap, cur, rfl, _⟩
        · exact absurd h0 (by omega)
        obtain ⟨_, hg, hc1, hc2, rest, hr, hB⟩ := ownsRow_blk ho
        have HP : Hid (∀ i, i < s.n → l.getD i 0 = p i) := Lib.hid (fun i hi => by rw [hlp, toL_getD hi])
        have HK : Hid (rest.length = (cap - s.n) * 1 ∧ s.n ≤ cap ∧ cap ≤ maxLen) := Lib.hid ⟨hr, hc1, hc2⟩
        have HPR := Lib.hid hp
        have hb0 : Blk w1 g (flat (inc (fun j => if j < 0 then nxt s l k j else p j)) s.n ++ rest) 3 := hB
        clear C0 C1 ho hlp hp hn hc1 hc2 hr hB
        obtain ⟨N, hN⟩ : ∃ N, s.n = N := ⟨_, rfl⟩
        have HN := Lib.hid hN
        rw [hN] at HF HP HPR HK hn4 hn1 hb0
        rw [hN]
        clear hN
        go_wp2_with fail
        go_loopg [34] N (fun q s34 wr => ∃ (i : Nat), i ≤ N ∧ q = N - i ∧ s34 = .int .i64 i ∧ Blk wr g (flat (inc (fun j => if j < i then nxt s l k j else p j)) N ++ rest) 3 ∧ Below w.heap.size w wr)
        case atStart => exact ⟨0, Nat.zero_le _, rfl, rfl, hb0, b1⟩
        case round =>
          clear hb0 b1
          obtain ⟨i, hi, rfl, rfl, blk, q⟩ := hrel
          by_cases hlt : i < N
          · have hz2 : (i : Int) < (N : Int) := by omega
            have hw1 : IntKind.i64.wrap ((i : Int) + 1) = (i : Int) + 1 := Go.IntWalk.i64_in _ (by omega)
            have hi' : i < s.n := HN.out ▸ hlt
            have C1 := Lib.hid (fun W (hW : Below w.heap.size w W) => sup_any (HS.out.keep hW) (p := i) hi')
            have C2 := Lib.hid (fun W (hW : Below w.heap.size w W) => slen_any (HS.out.keep hW) (p := i) hi')
            have hF := HF.out i hlt
            have hll := HS.out.ok.le i hi'
            have hpi := HP.out i hlt
            cases ho : s.off i with
            | true =>
              rw [ho] at C1
              have hx : nxt s l k i = p i := by unfold nxt; rw [if_pos ho, hpi]
              have hblk : flat (inc (fun j => if j < i then nxt s l k j else p j)) N = flat (inc (fun j => if j < i + 1 then nxt s l k j else p j)) N := flat_congr fun j hj => by
                simp only [inc]
                by_cases h1 : j < i
                · rw [if_pos h1, if_pos (by omega)]
                · rw [if_neg h1]
                  by_cases h2 : j = i
                  · subst h2; rw [if_pos (by omega), hx]
                  · rw [if_neg (by omega)]
              rw [hblk] at blk
              have HB := Lib.hid blk
              clear hF hpi hx hblk ho C2 blk
              go_wp2_with fail
              refine (C1.out _ q).mono ?_
              rintro e w2 ⟨rfl, rfl⟩
              go_wp2_with fail
              go_roundg (N - (i + 1))
              case measure => omega
              case rel => exact ⟨i + 1, hlt, rfl, (by first | rfl | simp), HB.out, q⟩
            | false =>
              rw [ho] at C1
              rw [hpi] at hF
              have hx : nxt s l k i = min (p i + k) (s.log i).length := by unfold nxt; rw [if_neg (by rw [ho]; decide), hpi]
              have hset : (flat (inc (fun j => if j < i then nxt s l k j else p j)) N ++ rest).set i (.int .i64 (min (p i + k) (s.log i).length)) = flat (inc (fun j => if j < i + 1 then nxt s l k j else p j)) N ++ rest := by
                have := inc_set (p := fun j => if j < i then nxt s l k j else p j) (p' := fun j => if j < i + 1 then nxt s l k j else p j) (rest := rest) hlt (fun j hj hji => by
                  by_cases h1 : j < i
                  · rw [if_pos h1, if_pos (by omega)]
                  · rw [if_neg h1, if_neg (by omega)])
                rw [if_pos (by omega), hx] at this
                exact this
              have HSET := Lib.hid hset
              have hat : (flat (inc (fun j => if j < i then nxt s l k j else p j)) N ++ rest)[i]? = some (.int .i64 (p i)) := by
                rw [inc_at hlt, if_neg (by omega)]
              have HAT := Lib.hid hat
              have hw2 : IntKind.i64.wrap (p i + k) = p i + k := Go.IntWalk.i64_in _ (by omega)
              have hgz := blk.lt
              have HB := Lib.hid blk
              have HG := Lib.hid hg
              clear hF hpi hx hset hat ho blk hll
              generalize flat (inc (fun j => if j < i then nxt s l k j else p j)) N ++ rest = ZS at *
              obtain ⟨CS, hCS⟩ : ∃ CS, flat (inc (fun j => if j < i + 1 then nxt s l k j else p j)) N ++ rest = CS := ⟨_, rfl⟩
              rw [hCS] at HSET
              have HCS := Lib.hid hCS
              clear hCS
              generalize (s.log i).length = m at *
              have HM : Hid (min (p i + k) (m : Int) = if (m : Int) < p i + k then (m : Int) else p i + k) := Lib.hid (by split <;> omega)
              rw [HM.out] at HSET
              clear HM
              by_cases hmn : (m : Int) < p i + k
              all_goals
                first | (rw [if_pos hmn] at HSET; have hm2 := eq_true hmn) | (rw [if_neg hmn] at HSET; have hm2 := eq_false hmn)
                clear hmn
                go_wp2_with fail
                refine (C1.out _ q).mono ?_
                rintro e w2 ⟨rfl, rfl⟩
                clear C1
                go_wp2_with fail
                refine wp_region_cls (PutC w g 13 CS ZS 3) (by kernel_rfl) (by kernel_rfl) (.begin _ (by decide) q HB.out) ?_
                refine lex_op (by rfl) ?_; apply Exists.intro; refine ⟨?_, ?_⟩; ((intro L w' hL hcl hT; have hT' := hT.upd (k := 0) (by decide); obtain ⟨hc, hf⟩ := bcell hT.bel; clear hT hcl hL; go_simp; exact rfl)); simp only [Act.put, List.setIfInBounds_toArray, List.set_cons_zero, List.set_cons_succ]
                refine lex_op (by rfl) ?_; apply Exists.intro; refine ⟨?_, ?_⟩; ((intro L w' hL hcl hT; have hT' := hT.upd (k := 1) (by decide); obtain ⟨hc, hf⟩ := bcell hT.bel; clear hT hcl hL; go_simp; exact rfl)); simp only [Act.put, List.setIfInBounds_toArray, List.set_cons_zero, List.set_cons_succ]
                refine lex_op (by rfl) ?_; apply Exists.intro; refine ⟨?_, ?_⟩; ((intro L w' hL hcl hT; have hT' := hT.upd (k := 2) (by decide); obtain ⟨hc, hf⟩ := bcell hT.bel; clear hT hcl hL; go_simp; exact rfl)); simp only [Act.put, List.setIfInBounds_toArray, List.set_cons_zero, List.set_cons_succ]
                refine lex_op (by rfl) ?_; apply Exists.intro; refine ⟨?_, ?_⟩; ((intro L w' hL hcl hT; have hT' := hT.upd (k := 3) (by decide); obtain ⟨hc, hf⟩ := bcell hT.bel; clear hT hcl hL; go_simp; exact rfl)); simp only [Act.put, List.setIfInBounds_toArray, List.set_cons_zero, List.set_cons_succ]
                refine lex_op (by rfl) ?_; apply Exists.intro; refine ⟨?_, ?_⟩; ((intro L w' hL hcl hT; have hT' := hT.upd (k := 4) (by decide); obtain ⟨hc, hf⟩ := bcell hT.bel; clear hT hcl hL; go_simp; exact rfl)); simp only [Act.put, List.setIfInBounds_toArray, List.set_cons_zero, List.set_cons_succ]
                refine lex_op (by rfl) ?_; apply Exists.intro; refine ⟨?_, ?_⟩
                · intro L w' hL hcl hT
                  have hT' := hT.upd (k := 5) (by decide)
                  have h7 := hcl.no (j := 7) (i := 5) rfl (by kernel_rfl) hL
                  have h11 := hcl.no (j := 11) (i := 7) rfl (by kernel_rfl) h7
                  have h13 := hcl.no (j := 13) (i := 11) rfl (by kernel_rfl) h11
                  have hB := hT.blk
                  rw [h13, if_neg (by decide)] at hB
                  have zc : w'.cell? ⟨g, i, none⟩ = some (.int .i64 (p i)) := (hB.cell i).trans HAT.out
                  clear hT hcl hL hB h7 h11 h13
                  go_simp
                  exact rfl
                simp only [Act.put, List.setIfInBounds_toArray, List.set_cons_zero, List.set_cons_succ]
                refine lex_op (by rfl) ?_; apply Exists.intro; refine ⟨?_, ?_⟩; ((intro L w' hL hcl hT; have hT' := hT.upd (k := 6) (by decide); obtain ⟨hc, hf⟩ := bcell hT.bel; clear hT hcl hL; go_simp; exact rfl)); simp only [Act.put, List.setIfInBounds_toArray, List.set_cons_zero, List.set_cons_succ]
                refine lex_op (by rfl) ?_; apply Exists.intro; refine ⟨?_, ?_⟩; ((intro L w' hL hcl hT; have hT' := hT.upd (k := 7) (by decide); obtain ⟨hc, hf⟩ := bcell hT.bel; clear hT hcl hL; go_simp; exact rfl)); simp only [Act.put, List.setIfInBounds_toArray, List.set_cons_zero, List.set_cons_succ]
                refine lex_op (by rfl) ?_; apply Exists.intro; refine ⟨?_, ?_⟩; ((intro L w' hL hcl hT; have hT' := hT.upd (k := 8) (by decide); obtain ⟨hc, hf⟩ := bcell hT.bel; clear hT hcl hL; go_simp; exact rfl)); simp only [Act.put, List.setIfInBounds_toArray, List.set_cons_zero, List.set_cons_succ]
                refine lex_op (by rfl) ?_; apply Exists.intro; refine ⟨?_, ?_⟩; ((intro L w' hL hcl hT; have hT' := hT.upd (k := 9) (by decide); obtain ⟨hc, hf⟩ := bcell hT.bel; clear hT hcl hL; go_simp; exact rfl)); simp only [Act.put, List.setIfInBounds_toArray, List.set_cons_zero, List.set_cons_succ]
                refine lex_op (by rfl) ?_; apply Exists.intro; refine ⟨?_, ?_⟩; ((intro L w' hL hcl hT; have hT' := hT.upd (k := 10) (by decide); obtain ⟨hc, hf⟩ := bcell hT.bel; clear hT hcl hL; go_simp; first | exact rfl | exact (C2.out _ hT'.bel).mono fun e w'' ⟨he, hw⟩ => ⟨he, hw ▸ hT'⟩)); simp only [Act.put, List.setIfInBounds_toArray, List.set_cons_zero, List.set_cons_succ]
                refine lex_op (by rfl) ?_; apply Exists.intro; refine ⟨?_, ?_⟩; ((intro L w' hL hcl hT; have hT' := hT.upd (k := 11) (by decide); obtain ⟨hc, hf⟩ := bcell hT.bel; clear hT hcl hL; go_simp; exact rfl)); simp only [Act.put, List.setIfInBounds_toArray, List.set_cons_zero, List.set_cons_succ]
                refine lex_op (by rfl) ?_; apply Exists.intro; refine ⟨?_, ?_⟩; ((intro L w' hL hcl hT; have hT' := hT.upd (k := 12) (by decide); obtain ⟨hc, hf⟩ := bcell hT.bel; clear hT hcl hL; go_simp; exact rfl)); simp only [Act.put, List.setIfInBounds_toArray, List.set_cons_zero, List.set_cons_succ]
                refine lex_op (by rfl) ?_; apply Exists.intro; refine ⟨?_, ?_⟩
                · intro L w' hL hcl hT
                  have hT' := hT.store hL HG.out HSET.out
                  have hB := hT.blk
                  rw [hL, if_neg (by decide)] at hB
                  have zf := hB.free i
                  have zc : w'.cell? ⟨g, i, none⟩ = some (.int .i64 (p i)) := (hB.cell i).trans HAT.out
                  clear hT hcl hL hB
                  go_simp
                  first | exact rfl | exact ⟨hT', rfl⟩ | exact hT'
                simp only [Act.put]
                refine lex_nil ?_
                intro w3 hT
                have p3 := hT.bel
                have q3 := hT.blk
                rw [if_pos rfl, ← HCS.out] at q3
                have HB3 := Lib.hid q3
                clear hT HB HAT HSET HCS C2 q3
                go_wp2_with fail
                go_roundg (N - (i + 1))
                case measure => omega
                case rel => exact ⟨i + 1, hlt, rfl, (by first | rfl | simp), HB3.out, p3⟩
          · obtain rfl : i = N := by omega
            have hz2 : ¬ ((i : Int) < (i : Int)) := by omega
            have e1 : flat (inc (fun j => if j < i then nxt s l k j else p j)) i = flat (inc (nxt s l k)) i := flat_congr fun j hj => by simp only [inc, if_pos hj]
            rw [e1] at blk
            have hrow := blk_ownsRow (n := i) (m := 1) (xs := flat (inc (nxt s l k)) i) (flat_len (inc_len _) i) hg HK.out.2.1 HK.out.2.2 HK.out.1 blk
            have own : OwnI wr w.heap.size (.slice (some ⟨g, 0, none⟩) i cap) (tos s l k) := ⟨i, nxt s l k, by unfold tos; rw [HN.out], fun j hj => by
              have h1 := HF.out j hj
              have h2 := HS.out.ok.le j (HN.out ▸ hj)
              omega, hrow, by omega⟩
            have HOW := Lib.hid own
            have C3 := Lib.hid (sbetween_any (HS.out.keep q) (HI.out.keep q) own.ints HL.out (by unfold tos; exact toL_len) (fun j hj => by
              have := HF.out j (HN.out ▸ hj)
              unfold tos
              rw [toL_getD hj]
              exact this))
            have hbase := q.size
            clear blk e1 hrow own hi hn1 hn4
            go_wp2_with fail
            refine C3.out.mono ?_
            rintro e w4 ⟨r', rfl, own4, b4⟩
            have p4 : Below w.heap.size w w4 := q.trans (b4.mono q.size)
            have own5 := HOW.out.keep b4
            have own6 := own4.base hbase
            clear C3 HOW own4 b4
            go_wp2_with fail
            (try simp only [Exit.inBlock, Exit.then]); refine bodyPost_ret (results_tmp3 rfl _ _ _) rfl ?_
            exact ⟨_, _, rfl, own5, own6, p4⟩
      · rw [if_neg hf] at C0
        rw [if_neg hf]
        clear hf
        go_enter Try.func11, Try.ntmps11
        go_wp2_with fail
        refine C0.out.mono ?_
        rintro e w' ⟨rfl, rfl⟩
        go_wp2_with fail
        (try simp only [Exit.inBlock, Exit.then]); refine bodyPost_ret (results_tmp3 rfl _ _ _) rfl ?_
        exact ⟨_, _, rfl, (fin.out _).1, (fin.out _).2, Below.refl _ _⟩
end
end Go.Proofs.Ytbckfoldjlgabaa
namespace Go.Proofs.Ytbckfoldjlgabaa
open Go.RowKit
open Fl (nan key canon)
/-- what Again answers -/
def again (s : St) (l l' : List Int) : List Rc × Int := if fits s l = true ∧ fits s l' = true ∧ fwd l l' = true then (betw s l l' s.n, 0) else ([], 70)
/-- how many records lie behind the ends of the first n partitions -/
def lsum (s : St) (l : List Int) : Nat → Int
  | 0 => 0
  | i + 1 => lsum s l i + ((s.log i).length - l.getD i 0)
/-- what Left answers -/
def left (s : St) (l : List Int) : Int × Int := if fits s l = true then (lsum s l s.n, 0) else (0, 70)
theorem lsum_in {s : St} (hs : s.ok) {l : List Int} (hf : fits s l = true) : ∀ i, i ≤ s.n → 0 ≤ lsum s l i ∧ lsum s l i ≤ 256 * i
  | 0, _ => ⟨Int.le_refl _, Int.le_refl _⟩
  | i + 1, h => by
    have h1 := lsum_in hs hf i (by omega)
    have h2 := of_decide_eq_true hf
    have h3 := h2.2 i (by rw [h2.1]; omega)
    have h4 := hs.le i (by omega)
    show 0 ≤ lsum s l i + _ ∧ lsum s l i + _ ≤ _
    omega
theorem Ints.shape {w : World} {v : Value} {l : List Int} (h : Ints w v l) : ∃ a cap, v = .slice a l.length cap := by
  obtain ⟨a, n, cap, b, o, p, rfl, rfl, _⟩ := h
  rw [toL_len]
  exact ⟨a, cap, rfl⟩
theorem again_in {s : St} {l l' : List Int} (h1 : fits s l = true) (h2 : fits s l' = true) (h3 : fwd l l' = true) :
    l.length = s.n ∧ l'.length = s.n ∧ ∀ i, i < s.n → 0 ≤ l.getD i 0 ∧ l.getD i 0 ≤ l'.getD i 0 ∧ l'.getD i 0 ≤ (s.log i).length := by
  have e1 := of_decide_eq_true h1
  have e2 := of_decide_eq_true h2
  have e3 := of_decide_eq_true h3
  exact ⟨e1.1, e2.1, fun i hi => ⟨(e1.2 i (by rw [e1.1]; exact hi)).1, e3.2 i (by rw [e1.1]; exact hi), (e2.2 i (by rw [e2.1]; exact hi)).2⟩⟩
section
variable {w : World} {sb pb : Nat} {lv mv : Value} {lg : Nat → Value} {s : St}
set_option maxRecDepth 100000 in
theorem sagain_nil {v v' : Value} {l l' : List Int} (w : World) (h : Ints w v l) (h' : Ints w v' l') :
    Calls Try.prog 18 #[.pointer none, v, v'] w fun e w' => e = .returned (.tuple #[.slice none 0 0, .int .i64 2]) ∧ Below w.heap.size w w' := by
  have C0 := Lib.hid (fun W => check_nil v W)
  obtain ⟨a, cap, rfl⟩ := h.shape
  obtain ⟨a', cap', rfl⟩ := h'.shape
  clear h h'
  go_enter Try.func18, Try.ntmps18
  go_wp2_with fail
  refine wp_loop_rounds 1 ?_
  rw [rounds_succ]
  go_wp2_with fail
  refine (C0.out _).mono ?_
  rintro e w' ⟨rfl, rfl⟩
  go_wp2_with fail
  go_ret2
  exact ⟨rfl, (by repeat' (first | with_reducible exact Below.refl _ _ | with_reducible assumption | with_reducible refine bel_drew ?_ | with_reducible refine bel_alloc ?_ _ | with_reducible refine bel_set ?_ ?_ _ | with_reducible refine bel_call ?_ (by assumption) | (dsimp only; omega) | (simp; done) | (simp; omega)))⟩
set_option maxRecDepth 100000 in
theorem sleft_nil (v : Value) (w : World) :
    Calls Try.prog 19 #[.pointer none, v] w fun e w' => e = .returned (.tuple #[.int .i64 0, .int .i64 2]) ∧ w = w' := by
  have C0 := Lib.hid (fun W => check_nil v W)
  go_enter Try.func19, Try.ntmps19
  go_wp2_with fail
  refine (C0.out _).mono ?_
  rintro e w' ⟨rfl, rfl⟩
  go_wp2_with fail
  go_ret2
  exact ⟨rfl, rfl⟩
set_option maxRecDepth 100000 in
set_option maxHeartbeats 4000000 in
theorem sagain_any {v v' : Value} {l l' : List Int} (hs : Src w sb pb lv mv lg s) (h : Ints w v l) (h' : Ints w v' l') :
    Calls Try.prog 18 #[.pointer (some ⟨sb, 0, none⟩), v, v'] w fun e w' => ∃ r, e = .returned (.tuple #[r, .int .i64 (again s l l').2]) ∧ OwnR w' w.heap.size r (again s l l').1 ∧ Below w.heap.size w w' := by
  have C0 := Lib.hid (fun W (hW : Below w.heap.size w W) => scheck_any (hs.keep hW) (h.keep hW))
  have C1 := Lib.hid (fun W (hW : Below w.heap.size w W) => scheck_any (hs.keep hW) (h'.keep hW))
  have C2 := Lib.hid (fun W (hW : Below w.heap.size w W) => forward_any W (h.keep hW) (h'.keep hW))
  have C3 := Lib.hid (fun (h1 : fits s l = true) (h2 : fits s l' = true) (h3 : fwd l l' = true) W (hW : Below w.heap.size w W) => sbetween_any (hs.keep hW) (h.keep hW) (h'.keep hW) (again_in h1 h2 h3).1 (again_in h1 h2 h3).2.1 (again_in h1 h2 h3).2.2)
  have fin := Lib.hid (fun (w' : World) => OwnR.nil w' w.heap.size)
  obtain ⟨a, cap, rfl⟩ := h.shape
  obtain ⟨a', cap', rfl⟩ := h'.shape
  clear hs h h'
  unfold again
  by_cases h1 : fits s l = true
  · rw [if_pos h1] at C0
    by_cases h2 : fits s l' = true
    · rw [if_pos h2] at C1
      cases h3 : fwd l l' with
      | true =>
        rw [if_pos ⟨h1, h2, rfl⟩]
        rw [h3] at C2
        have C4 := Lib.hid (C3.out h1 h2 h3)
        clear h1 h2 h3 C3 fin
        go_enter Try.func18, Try.ntmps18
        go_wp2_with fail
        refine wp_loop_rounds 3 ?_
        rw [rounds_succ]
        go_wp2_with fail
        refine (C0.out _ (by repeat' (first | with_reducible exact Below.refl _ _ | with_reducible assumption | with_reducible refine bel_drew ?_ | with_reducible refine bel_alloc ?_ _ | with_reducible refine bel_set ?_ ?_ _ | with_reducible refine bel_call ?_ (by assumption) | (dsimp only; omega) | (simp; done) | (simp; omega)))).mono ?_
        rintro e w' ⟨rfl, rfl⟩
        go_wp2_with fail
        rw [rounds_succ]
        go_wp2_with fail
        refine (C1.out _ (by repeat' (first | with_reducible exact Below.refl _ _ | with_reducible assumption | with_reducible refine bel_drew ?_ | with_reducible refine bel_alloc ?_ _ | with_reducible refine bel_set ?_ ?_ _ | with_reducible refine bel_call ?_ (by assumption) | (dsimp only; omega) | (simp; done) | (simp; omega)))).mono ?_
        rintro e w' ⟨rfl, rfl⟩
        go_wp2_with fail
        rw [rounds_succ]
        go_wp2_with fail
        refine (C2.out _ (by repeat' (first | with_reducible exact Below.refl _ _ | with_reducible assumption | with_reducible refine bel_drew ?_ | with_reducible refine bel_alloc ?_ _ | with_reducible refine bel_set ?_ ?_ _ | with_reducible refine bel_call ?_ (by assumption) | (dsimp only; omega) | (simp; done) | (simp; omega)))).mono ?_
        rintro e w1 ⟨rfl, hb⟩
        have p1 : Below w.heap.size w w1 := (by repeat' (first | with_reducible exact Below.refl _ _ | with_reducible assumption | with_reducible refine bel_drew ?_ | with_reducible refine bel_alloc ?_ _ | with_reducible refine bel_set ?_ ?_ _ | with_reducible refine bel_call ?_ (by assumption) | (dsimp only; omega) | (simp; done) | (simp; omega)))
        have n1 := p1.size
        clear hb
        go_wp2_with fail
        refine (C4.out _ p1).mono ?_
        rintro e w2 ⟨r, rfl, own, hb⟩
        have p2 : Below w.heap.size w w2 := (by repeat' (first | with_reducible exact Below.refl _ _ | with_reducible assumption | with_reducible refine bel_drew ?_ | with_reducible refine bel_alloc ?_ _ | with_reducible refine bel_set ?_ ?_ _ | with_reducible refine bel_call ?_ (by assumption) | (dsimp only; omega) | (simp; done) | (simp; omega)))
        go_wp2_with fail
        go_ret2
        exact ⟨_, rfl, own.base n1, p2⟩
      | false =>
        rw [if_neg (by rintro ⟨_, _, h⟩; cases h)]
        rw [h3] at C2
        clear h1 h2 h3 C3
        go_enter Try.func18, Try.ntmps18
        go_wp2_with fail
        refine wp_loop_rounds 3 ?_
        rw [rounds_succ]
        go_wp2_with fail
        refine (C0.out _ (by repeat' (first | with_reducible exact Below.refl _ _ | with_reducible assumption | with_reducible refine bel_drew ?_ | with_reducible refine bel_alloc ?_ _ | with_reducible refine bel_set ?_ ?_ _ | with_reducible refine bel_call ?_ (by assumption) | (dsimp only; omega) | (simp; done) | (simp; omega)))).mono ?_
        rintro e w' ⟨rfl, rfl⟩
        go_wp2_with fail
        rw [rounds_succ]
        go_wp2_with fail
        refine (C1.out _ (by repeat' (first | with_reducible exact Below.refl _ _ | with_reducible assumption | with_reducible refine bel_drew ?_ | with_reducible refine bel_alloc ?_ _ | with_reducible refine bel_set ?_ ?_ _ | with_reducible refine bel_call ?_ (by assumption) | (dsimp only; omega) | (simp; done) | (simp; omega)))).mono ?_
        rintro e w' ⟨rfl, rfl⟩
        go_wp2_with fail
        rw [rounds_succ]
        go_wp2_with fail
        refine (C2.out _ (by repeat' (first | with_reducible exact Below.refl _ _ | with_reducible assumption | with_reducible refine bel_drew ?_ | with_reducible refine bel_alloc ?_ _ | with_reducible refine bel_set ?_ ?_ _ | with_reducible refine bel_call ?_ (by assumption) | (dsimp only; omega) | (simp; done) | (simp; omega)))).mono ?_
        rintro e w1 ⟨rfl, hb⟩
        have p1 : Below w.heap.size w w1 := (by repeat' (first | with_reducible exact Below.refl _ _ | with_reducible assumption | with_reducible refine bel_drew ?_ | with_reducible refine bel_alloc ?_ _ | with_reducible refine bel_set ?_ ?_ _ | with_reducible refine bel_call ?_ (by assumption) | (dsimp only; omega) | (simp; done) | (simp; omega)))
        clear hb
        go_wp2_with fail
        go_ret2
        exact ⟨_, rfl, fin.out _, p1⟩
    · rw [if_neg h2] at C1
      rw [if_neg (fun h => h2 h.2.1)]
      clear h1 h2 C3 C2
      go_enter Try.func18, Try.ntmps18
      go_wp2_with fail
      refine wp_loop_rounds 2 ?_
      rw [rounds_succ]
      go_wp2_with fail
      refine (C0.out _ (by repeat' (first | with_reducible exact Below.refl _ _ | with_reducible assumption | with_reducible refine bel_drew ?_ | with_reducible refine bel_alloc ?_ _ | with_reducible refine bel_set ?_ ?_ _ | with_reducible refine bel_call ?_ (by assumption) | (dsimp only; omega) | (simp; done) | (simp; omega)))).mono ?_
      rintro e w' ⟨rfl, rfl⟩
      go_wp2_with fail
      rw [rounds_succ]
      go_wp2_with fail
      refine (C1.out _ (by repeat' (first | with_reducible exact Below.refl _ _ | with_reducible assumption | with_reducible refine bel_drew ?_ | with_reducible refine bel_alloc ?_ _ | with_reducible refine bel_set ?_ ?_ _ | with_reducible refine bel_call ?_ (by assumption) | (dsimp only; omega) | (simp; done) | (simp; omega)))).mono ?_
      rintro e w' ⟨rfl, rfl⟩
      go_wp2_with fail
      go_ret2
      exact ⟨_, rfl, fin.out _, (by repeat' (first | with_reducible exact Below.refl _ _ | with_reducible assumption | with_reducible refine bel_drew ?_ | with_reducible refine bel_alloc ?_ _ | with_reducible refine bel_set ?_ ?_ _ | with_reducible refine bel_call ?_ (by assumption) | (dsimp only; omega) | (simp; done) | (simp; omega)))⟩
  · rw [if_neg h1] at C0
    rw [if_neg (fun h => h1 h.1)]
    clear h1 C3 C2 C1
    go_enter Try.func18, Try.ntmps18
    go_wp2_with fail
    refine wp_loop_rounds 1 ?_
    rw [rounds_succ]
    go_wp2_with fail
    refine (C0.out _ (by repeat' (first | with_reducible exact Below.refl _ _ | with_reducible assumption | with_reducible refine bel_drew ?_ | with_reducible refine bel_alloc ?_ _ | with_reducible refine bel_set ?_ ?_ _ | with_reducible refine bel_call ?_ (by assumption) | (dsimp only; omega) | (simp; done) | (simp; omega)))).mono ?_
    rintro e w' ⟨rfl, rfl⟩
    go_wp2_with fail
    go_ret2
    exact ⟨_, rfl, fin.out _, (by repeat' (first | with_reducible exact Below.refl _ _ | with_reducible assumption | with_reducible refine bel_drew ?_ | with_reducible refine bel_alloc ?_ _ | with_reducible refine bel_set ?_ ?_ _ | with_reducible refine bel_call ?_ (by assumption) | (dsimp only; omega) | (simp; done) | (simp; omega)))⟩
set_option maxRecDepth 100000 in
set_option maxHeartbeats 4000000 in
theorem sleft_any {v : Value} {l : List Int} (hs : Src w sb pb lv mv lg s) (h : Ints w v l) :
    Calls Try.prog 19 #[.pointer (some ⟨sb, 0, none⟩), v] w fun e w' => e = .returned (.tuple #[.int .i64 (left s l).1, .int .i64 (left s l).2]) ∧ w = w' := by
  have C0 := Lib.hid (scheck_any hs h)
  have C1 := Lib.hid (fun i hi => slen_any hs (p := i) hi)
  have HS := Lib.hid hs
  unfold left
  by_cases hf : fits s l = true
  · rw [if_pos hf] at C0
    rw [if_pos hf]
    have HF := Lib.hid hf
    have HD := Lib.hid (of_decide_eq_true hf)
    have HL := Lib.hid (lsum_in hs.ok hf)
    have hn4 := hs.ok.n4
    obtain ⟨a, n, cap, b, o, p, rfl, hlp, ha, hr, hc, hm⟩ := h
    obtain rfl : s.n = n := by rw [← HD.out.1, hlp, toL_len]
    have HP : Hid (∀ i, i < s.n → l.getD i 0 = p i) := Lib.hid (fun i hi => by rw [hlp, toL_getD hi])
    have HR := Lib.hid hr
    have HA := Lib.hid ha
    obtain ⟨N, hN⟩ : ∃ N, s.n = N := ⟨_, rfl⟩
    have HN := Lib.hid hN
    clear hs hlp hc hm hr ha hf
    rw [hN] at HD HL hn4 HP HR HA C1 C0
    rw [hN]
    clear hN
    go_enter Try.func19, Try.ntmps19
    go_wp2_with fail
    refine C0.out.mono ?_
    rintro e w' ⟨rfl, rfl⟩
    go_wp2_with fail
    go_loopg [7, 18] N (fun g s7 s18 wr => ∃ (i : Nat), i ≤ N ∧ g = N - i ∧ s18 = .int .i64 i ∧ s7 = .int .i64 (lsum s l i) ∧ wr = w)
    case atStart => exact ⟨0, Nat.zero_le _, rfl, rfl, rfl, rfl⟩
    case round =>
      obtain ⟨i, hi, rfl, rfl, rfl, rfl⟩ := hrel
      by_cases hlt : i < N
      · obtain rfl := HA.out (by omega)
        have hz2 : (i : Int) < (N : Int) := by omega
        have hw1 : IntKind.i64.wrap ((i : Int) + 1) = (i : Int) + 1 := Go.IntWalk.i64_in _ (by omega)
        have r1 := HR.out (by omega)
        have x0 := r1.c i hlt
        have z1 := r1.lt
        have C3 := Lib.hid (C1.out i hlt)
        have hE : lsum s l (i + 1) = lsum s l i + ((s.log i).length - p i) := by
          show lsum s l i + _ = _
          rw [HP.out i hlt]
        have hE1 := HL.out i hi
        have hE2 := HL.out (i + 1) hlt
        have hd := HD.out.2 i (by rw [HD.out.1]; exact hlt)
        rw [HP.out i hlt] at hd
        have hw2 : IntKind.i64.wrap (((s.log i).length : Int) - p i) = (s.log i).length - p i := Go.IntWalk.i64_in _ (by rw [hE] at hE2; omega)
        have hw3 : IntKind.i64.wrap (lsum s l i + ((s.log i).length - p i)) = lsum s l (i + 1) := by rw [← hE]; exact Go.IntWalk.i64_in _ (by omega)
        clear r1 HR HA C0 C1 hE hE1 hE2 hd HL HD HP HF
        generalize lsum s l i = m1 at *
        obtain ⟨m2, hm2⟩ : ∃ m2, lsum s l (i + 1) = m2 := ⟨_, rfl⟩
        rw [hm2] at hw3
        have HM2 := Lib.hid hm2
        clear hm2
        generalize (s.log i).length = m3 at *
        go_wp2_with fail
        refine C3.out.mono ?_
        rintro e w' ⟨rfl, rfl⟩
        go_wp2_with fail
        go_roundg (N - (i + 1))
        case measure => omega
        case rel => exact ⟨i + 1, hlt, rfl, (by first | rfl | simp), by rw [HM2.out], rfl⟩
      · obtain rfl : i = N := by omega
        have hz2 : ¬ ((i : Int) < (i : Int)) := by omega
        go_wp2_with fail
        go_ret2
        exact ⟨rfl, rfl⟩
  · rw [if_neg hf] at C0
    rw [if_neg hf]
    clear hf hs h C1
    go_enter Try.func19, Try.ntmps19
    go_wp2_with fail
    refine C0.out.mono ?_
    rintro e w' ⟨rfl, rfl⟩
    go_wp2_with fail
    go_ret2
    exact ⟨rfl, rfl⟩
end
end Go.Proofs.Ytbckfoldjlgabaa
namespace Go.Proofs.Ytbckfoldjlgabaa
open Go.RowKit
open Fl (nan key canon)
def lgc (lg : Nat → Value) (i : Nat) : List Value := [lg i]
def ofc (off : Nat → Bool) (i : Nat) : List Value := [.bool (off i)]
theorem lgc_len (lg : Nat → Value) (i : Nat) : (lgc lg i).length = 1 := rfl
theorem ofc_len (off : Nat → Bool) (i : Nat) : (ofc off i).length = 1 := rfl
/-- a source of the document lies in block tb -/
structure RSrc (w : World) (tb gb ob : Nat) (lv : Value) (lg : Nat → Value) (s : St) : Prop where
  ok : s.ok
  hd : Blk w tb [.slice (some ⟨gb, 0, none⟩) s.n s.n, .slice (some ⟨ob, 0, none⟩) s.n s.n, lv] 97
  gs : Blk w gb (flat (lgc lg) s.n) 22
  os : Blk w ob (flat (ofc s.off) s.n) 4
  rc : ∀ i, i < s.n → OwnR w 0 (lg i) (s.log i)
/-- records appended at the operation -/
theorem wpList_append_recs {w : World} {ops : Array Oper} {rest : List Oper} {o : Oper} {a : Act} {Q : Exit → Act → World → Prop} (hgd : o.guard = none) (s x : Operand)
    (ho : o.op = .call { callee := .builtin .append, args := #[s, x], argTypes := #[22, 22] }) (hty : o.type = 22)
    {base : Nat} {v sv : Value} {l l' : List Rc} (hse : a.eval s = v) (hx : a.eval x = sv) (hv : OwnR w base v l) (hs : Recs w sv l') (hb : base ≤ w.heap.size) (hl : l.length + l'.length ≤ 8796093021952)
    (h : ∀ v' w', OwnR w' base v' (l ++ l') → w.grownBy w' v.ownBlock → (v'.ownBlock = v.ownBlock ∨ v'.ownBlock = some w.heap.size) → wpList Try.prog ops Q rest (a.put o.dst v') w') : wpList Try.prog ops Q (o :: rest) a w := by
  refine wpList_plain hgd fun K hK => ?_
  obtain ⟨v', w', hrun, h2, h3, h4⟩ := run_append_recs hv hs hb hl o.type hty
  unfold Oper.wp execOp
  simp only [ho, resolve, invoke, builtin, Sem.run_bind, Sem.run_pure, Result.andThen_ok, List.map_toArray, List.map_cons, List.map_nil, hse, hx, hrun]
  exact hK _ _ (h v' w' h2 h3 h4)
/-- numbers appended -/
theorem run_append_ints {w : World} {base : Nat} {v sv : Value} {l l' : List Int} (hv : OwnI w base v l) (hs : Ints w sv l') (hb : base ≤ w.heap.size) (hl : l.length + l'.length ≤ 17592186043904) (ty : TypeId) (hty : ty = 23) :
    ∃ v' w', (Builtin.append_ #[23, 23] ty #[v, sv]).run Try.prog w = .ok v' w' ∧ OwnI w' base v' (l ++ l') ∧ w.grownBy w' v.ownBlock ∧ (v'.ownBlock = v.ownBlock ∨ v'.ownBlock = some w.heap.size) := by
  subst hty
  obtain ⟨i0, hi, hz0, hz1, hz2⟩ := info_parts infoInt
  obtain ⟨n, p, rfl, hp, ho, hn⟩ := hv
  obtain ⟨a, k, cap, b, o, q, rfl, rfl, ha, hr, hc, hm⟩ := hs
  rw [toL_len, toL_len] at hl
  have hE : flat (both (inc p) n (inc q)) (n + k) = flat (inc (fun i => if i < n then p i else q (i - n))) (n + k) := flat_congr fun i _ => by
    by_cases h : i < n
    · simp only [both, inc, if_pos h]
    · simp only [both, inc, if_neg h]
  have hok : ∀ i, i < n + k → -9223372036854775808 ≤ (fun i => if i < n then p i else q (i - n)) i ∧ (fun i => if i < n then p i else q (i - n)) i ≤ 9223372036854775807 := fun i hi => by
    by_cases h : i < n
    · simp only [if_pos h]; exact hp i h
    · simp only [if_neg h]; exact (hr (by omega)).ok _ (by omega)
  by_cases hk : k = 0
  · subst hk
    cases a with
    | none => exact ⟨_, w, run_append_none (P := Try.prog) w base _ _ 3 i0 1 Try.underlying23 hi v n _ ho cap, ⟨n, p, by simp [toL], hp, ho, hn⟩, World.grownBy.refl w _, .inl rfl⟩
    | some ad =>
      obtain ⟨v', w', h1, h2, h3, _, h5⟩ := run_append_own_at (P := Try.prog) w base _ 23 3 i0 _ 1 8 Try.underlying23 hi hz0 hz1 hz2 rfl (by decide) v n (flat (inc p) n) ho ad 0 cap [] (by simp) (by simp) (by simp) (by unfold maxLen; omega) (by omega) hb
      exact ⟨v', w', h1, ⟨n, p, by simp [toL], hp, by simpa using h2, hn⟩, h3, h5⟩
  · obtain rfl := ha (by omega)
    have L := (hr (by omega)).lies
    obtain ⟨v', w', h1, h2, h3, _, h5⟩ := run_append_own_at (P := Try.prog) w base _ 23 3 i0 _ 1 8 Try.underlying23 hi hz0 hz1 hz2 rfl (by decide) v n (flat (inc p) n) ho ⟨b, o, none⟩ k cap (flat (inc q) k) (flat_len (inc_len q) k) (L.news (inc_len q)) (fun u hu => by obtain ⟨j, _, hj⟩ := flat_mem hu; exact inc_one q j u hj) (by unfold maxLen; omega) (by omega) hb
    rw [flat_add, hE] at h2
    exact ⟨v', w', h1, ⟨n + k, _, toL_append, hok, h2, by omega⟩, h3, h5⟩
theorem wpList_append_ints {w : World} {ops : Array Oper} {rest : List Oper} {o : Oper} {a : Act} {Q : Exit → Act → World → Prop} (hgd : o.guard = none) (s x : Operand)
    (ho : o.op = .call { callee := .builtin .append, args := #[s, x], argTypes := #[23, 23] }) (hty : o.type = 23)
    {base : Nat} {v sv : Value} {l l' : List Int} (hse : a.eval s = v) (hx : a.eval x = sv) (hv : OwnI w base v l) (hs : Ints w sv l') (hb : base ≤ w.heap.size) (hl : l.length + l'.length ≤ 17592186043904)
    (h : ∀ v' w', OwnI w' base v' (l ++ l') → w.grownBy w' v.ownBlock → (v'.ownBlock = v.ownBlock ∨ v'.ownBlock = some w.heap.size) → wpList Try.prog ops Q rest (a.put o.dst v') w') : wpList Try.prog ops Q (o :: rest) a w := by
  refine wpList_plain hgd fun K hK => ?_
  obtain ⟨v', w', hrun, h2, h3, h4⟩ := run_append_ints hv hs hb hl o.type hty
  unfold Oper.wp execOp
  simp only [ho, resolve, invoke, builtin, Sem.run_bind, Sem.run_pure, Result.andThen_ok, List.map_toArray, List.map_cons, List.map_nil, hse, hx, hrun]
  exact hK _ _ (h v' w' h2 h3 h4)
theorem OwnR.made (w : World) : OwnR (w.alloc (.cells #[] 66)) w.heap.size (.slice (some ⟨w.heap.size, 0, none⟩) 0 0) [] := ⟨0, fun _ => ⟨0, 0⟩, rfl, fun i hi => absurd hi (Nat.not_lt_zero _), owns_none w _ _ _, by omega⟩
theorem OwnI.made (w : World) : OwnI (w.alloc (.cells #[] 3)) w.heap.size (.slice (some ⟨w.heap.size, 0, none⟩) 0 0) [] := ⟨0, fun _ => 0, rfl, fun i hi => absurd hi (Nat.not_lt_zero _), owns_none w _ _ _, by omega⟩
section
variable {w : World} {tb gb ob : Nat} {lv : Value} {lg : Nat → Value} {s : St}
theorem RSrc.keep {w' : World} (h : RSrc w tb gb ob lv lg s) (hb : Below w.heap.size w w') : RSrc w' tb gb ob lv lg s :=
  ⟨h.ok, h.hd.below hb, h.gs.below hb, h.os.below hb, fun i hi => (h.rc i hi).keep hb⟩
theorem RSrc.h0 (h : RSrc w tb gb ob lv lg s) : w.cell? ⟨tb, 0, none⟩ = some (.slice (some ⟨gb, 0, none⟩) s.n s.n) := h.hd.cell 0
theorem RSrc.h1 (h : RSrc w tb gb ob lv lg s) : w.cell? ⟨tb, 1, none⟩ = some (.slice (some ⟨ob, 0, none⟩) s.n s.n) := h.hd.cell 1
theorem RSrc.h2 (h : RSrc w tb gb ob lv lg s) : w.cell? ⟨tb, 2, none⟩ = some lv := h.hd.cell 2
theorem RSrc.c0 (h : RSrc w tb gb ob lv lg s) {p : Nat} (hp : p < s.n) : w.cell? ⟨gb, p, none⟩ = some (lg p) := by
  have := h.gs.cell (p * 1 + 0)
  rw [flat_get (lgc_len lg) (by decide) hp, Nat.mul_one, Nat.add_zero] at this
  exact this
theorem RSrc.c1 (h : RSrc w tb gb ob lv lg s) {p : Nat} (hp : p < s.n) : w.cell? ⟨ob, p, none⟩ = some (.bool (s.off p)) := by
  have := h.os.cell (p * 1 + 0)
  rw [flat_get (ofc_len s.off) (by decide) hp, Nat.mul_one, Nat.add_zero] at this
  exact this
set_option maxRecDepth 100000 in
theorem rhas_in (h : RSrc w tb gb ob lv lg s) {p : Nat} (hp : p < s.n) :
    Calls Try.prog 54 #[.pointer (some ⟨tb, 0, none⟩), .int .i64 p] w fun e w' => e = .returned (.bool true) ∧ w = w' := by
  have h1 := h.ok.n4
  have q0 := h.h0
  have hy := h.hd.lt
  clear h
  obtain ⟨n, lo, of⟩ := s
  dsimp only at *
  have z1 : (0 : Int) ≤ (p : Int) := by omega
  have z3 : (p : Int) < (n : Int) := by omega
  go_enter Try.func54, Try.ntmps54
  go_wp2_with fail
  go_ret
  exact ⟨rfl, rfl⟩
set_option maxRecDepth 100000 in
theorem rhas_out (h : RSrc w tb gb ob lv lg s) {p : Int} (hp : p < 0 ∨ (s.n : Int) ≤ p) :
    Calls Try.prog 54 #[.pointer (some ⟨tb, 0, none⟩), .int .i64 p] w fun e w' => e = .returned (.bool false) ∧ w = w' := by
  have h1 := h.ok.n4
  have q0 := h.h0
  have hy := h.hd.lt
  clear h
  obtain ⟨n, lo, of⟩ := s
  dsimp only at *
  by_cases z1 : p < 0
  · have z2 : ¬ (0 ≤ p) := by omega
    go_enter Try.func54, Try.ntmps54
    go_wp2_with fail
    go_ret
    exact ⟨rfl, rfl⟩
  · have z2 : (0 ≤ p) := by omega
    have z3 : ¬ (p < (n : Int)) := by omega
    go_enter Try.func54, Try.ntmps54
    go_wp2_with fail
    go_ret
    exact ⟨rfl, rfl⟩
set_option maxRecDepth 100000 in
theorem rparts_any (h : RSrc w tb gb ob lv lg s) :
    Calls Try.prog 58 #[.pointer (some ⟨tb, 0, none⟩)] w fun e w' => e = .returned (.int .i64 s.n) ∧ w = w' := by
  have q0 := h.h0
  have hy := h.hd.lt
  clear h
  obtain ⟨n, lo, of⟩ := s
  dsimp only at *
  go_enter Try.func58, Try.ntmps58
  go_wp2_with fail
  go_ret
  exact ⟨rfl, rfl⟩
set_option maxRecDepth 100000 in
theorem rup_any (h : RSrc w tb gb ob lv lg s) {p : Nat} (hp : p < s.n) :
    Calls Try.prog 41 #[.pointer (some ⟨tb, 0, none⟩), .int .i64 p] w fun e w' => e = .returned (.bool (!s.off p)) ∧ w = w' := by
  have C1 := Lib.hid (rhas_in h hp)
  have x0 := h.c1 hp
  have q0 := h.h1
  have hy := h.hd.lt
  have hz := h.os.lt
  have hn := h.ok.n4
  clear h
  obtain ⟨n, lo, of⟩ := s
  dsimp only at *
  have z3 : (p : Int) < (n : Int) := by omega
  go_enter Try.func41, Try.ntmps41
  go_wp2_with fail
  refine C1.out.mono ?_
  rintro e w' ⟨rfl, rfl⟩
  go_wp2_with fail
  go_ret
  exact ⟨rfl, rfl⟩
set_option maxRecDepth 100000 in
theorem rlen_any (h : RSrc w tb gb ob lv lg s) {p : Nat} (hp : p < s.n) :
    Calls Try.prog 42 #[.pointer (some ⟨tb, 0, none⟩), .int .i64 p] w fun e w' => e = .returned (.int .i64 (s.log p).length) ∧ w = w' := by
  have C1 := Lib.hid (rhas_in h hp)
  have x0 := h.c0 hp
  have q0 := h.h0
  have hy := h.hd.lt
  have hz := h.gs.lt
  have hn := h.ok.n4
  obtain ⟨a, cap, hs⟩ := (h.rc p hp).shape
  rw [hs] at x0
  clear h hs
  generalize (s.log p).length = m at *
  obtain ⟨n, lo, of⟩ := s
  dsimp only at *
  have z3 : (p : Int) < (n : Int) := by omega
  go_enter Try.func42, Try.ntmps42
  go_wp2_with fail
  refine C1.out.mono ?_
  rintro e w' ⟨rfl, rfl⟩
  go_wp2_with fail
  go_ret
  exact ⟨rfl, rfl⟩
set_option maxRecDepth 100000 in
theorem rlog_any (h : RSrc w tb gb ob lv lg s) {p : Nat} (hp : p < s.n) :
    Calls Try.prog 59 #[.pointer (some ⟨tb, 0, none⟩), .int .i64 p] w fun e w' => ∃ v, e = .returned v ∧ OwnR w' w.heap.size v (s.log p) ∧ Below w.heap.size w w' := by
  have C1 := Lib.hid (fun W (hW : Below w.heap.size w W) => rhas_in (h.keep hW) hp)
  have x0 := h.c0 hp
  have q0 := h.h0
  have hy := h.hd.lt
  have hz := h.gs.lt
  have hn := h.ok.n4
  have hl := h.ok.le p hp
  have hv := (h.rc p hp).recs
  have HV : Hid (Recs (w.alloc (.cells #[] 66)) (lg p) (s.log p)) := Lib.hid (hv.keep ((Below.refl _ _).alloc (Nat.le_refl _) _))
  clear h hv
  generalize s.log p = l at *
  generalize lg p = v at *
  obtain ⟨n, lo, of⟩ := s
  dsimp only at *
  have z3 : (p : Int) < (n : Int) := by omega
  go_enter Try.func59, Try.ntmps59
  go_wp2_with fail
  refine (C1.out _ (by repeat' (first | with_reducible exact Below.refl _ _ | with_reducible assumption | with_reducible refine bel_drew ?_ | with_reducible refine bel_alloc ?_ _ | with_reducible refine bel_set ?_ ?_ _ | with_reducible refine bel_call ?_ (by assumption) | (dsimp only; omega) | (simp; done) | (simp; omega)))).mono ?_
  rintro e w' ⟨rfl, rfl⟩
  go_wp2_with (at_builtin; refine wpList_append_recs rfl (.tmp 10) (.tmp 17) rfl rfl rfl rfl (OwnR.made w) HV.out (by simp) (by simp; omega) ?_; intro v' w3 own3 grow3 hat)
  have p3 : Below w.heap.size w w3 := ((Below.refl _ _).alloc (Nat.le_refl _) _).grown grow3 (by simp) (fun k h => by cases h; exact Nat.le_refl _)
  rw [List.nil_append] at own3
  go_ret
  exact ⟨_, rfl, own3, p3⟩
end
end Go.Proofs.Ytbckfoldjlgabaa
