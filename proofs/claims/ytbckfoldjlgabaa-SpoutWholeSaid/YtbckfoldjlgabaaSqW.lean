/- WALK of SpoutWhole: batches are the logs. -/
import Derived.Test.YtbckfoldjlgabaaSqF
namespace Go.Proofs.Ytbckfoldjlgabaa
open Go.RowKit Go.Maps
open Fl (nan key canon)
theorem Recs.shape {w : World} {v : Value} {l : List Rc} (h : Recs w v l) : ∃ a cap, v = .slice a l.length cap := by
  obtain ⟨a, n, cap, b, o, p, rfl, rfl, _⟩ := h
  rw [toL_len]
  exact ⟨a, cap, rfl⟩
/-- all records of the first n partitions -/
def cat (s : St) (n : Nat) : List Rc := (List.range n).flatMap s.log
theorem cat_succ (s : St) (n : Nat) : cat s (n + 1) = cat s n ++ s.log n := by
  unfold cat
  rw [List.range_succ, List.flatMap_append]
  simp
theorem cat_split (s : St) (p : Nat) : ∀ {n : Nat}, p < n → ∃ r, cat s n = cat s p ++ (s.log p ++ r)
  | 0, h => absurd h (Nat.not_lt_zero _)
  | n + 1, h => by
    rw [cat_succ]
    by_cases hp : p < n
    · obtain ⟨r, hr⟩ := cat_split s p hp
      exact ⟨r ++ s.log n, by rw [hr]; simp⟩
    · obtain rfl : p = n := by omega
      exact ⟨[], by simp⟩
theorem cat_len {s : St} (hs : s.ok) : ∀ {n : Nat}, n ≤ s.n → (cat s n).length ≤ n * 256
  | 0, _ => by simp [cat]
  | n + 1, h => by
    rw [cat_succ, List.length_append]
    have h1 := cat_len hs (n := n) (by omega)
    have h2 := hs.le n (by omega)
    omega
section
variable {w : World} {sb pb : Nat} {lv mv : Value} {lg : Nat → Value} {s : St}
set_option maxRecDepth 100000 in
set_option maxHeartbeats 8000000 in
theorem slogs_any {v : Value} (hs : Src w sb pb lv mv lg s) (h : Recs w v (cat s s.n)) :
    Calls Try.prog 26 #[.pointer (some ⟨sb, 0, none⟩), v] w fun e w' => e = .returned (.bool true) ∧ Below w.heap.size w w' := by
  have HS := Lib.hid hs
  have HR := Lib.hid h
  obtain ⟨N, hN⟩ : ∃ N, s.n = N := ⟨_, rfl⟩
  have HN := Lib.hid hN
  have CP := Lib.hid (fun W (hW : Below w.heap.size w W) => hN ▸ sparts_any (hs.keep hW))
  have hn4 := hs.ok.n4
  rw [hN] at hn4
  obtain ⟨a, cap, rfl⟩ := h.shape
  have htot := cat_len hs.ok (n := s.n) (Nat.le_refl _)
  rw [hN] at htot
  rw [hN]
  rw [hN] at HR h
  generalize hM : (cat s N).length = M at *
  have HM := Lib.hid hM
  clear hM h hs hN
  go_enter Try.func26, Try.ntmps26
  go_wp2_with fail
  go_loopg [5, 6] N (fun g s5 s6 wr => ∃ (p : Nat), p ≤ N ∧ g = N - p ∧ s6 = .int .i64 p ∧ s5 = .int .i64 ((cat s p).length : Int) ∧ Below w.heap.size w wr)
  case atStart => exact ⟨0, Nat.zero_le _, rfl, rfl, rfl, Below.refl _ _⟩
  case round =>
    obtain ⟨p, hp, rfl, rfl, rfl, q⟩ := hrel
    have CPW := Lib.hid (CP.out wr q)
    by_cases hlt : p < N
    · have hz2 : (p : Int) < (N : Int) := by omega
      have hw1 : IntKind.i64.wrap ((p : Int) + 1) = (p : Int) + 1 := Go.IntWalk.i64_in _ (by omega)
      have C1 := Lib.hid (slog_any (HS.out.keep q) (p := p) (HN.out ▸ hlt))
      obtain ⟨r, hr⟩ := cat_split s p hlt
      have hlen : (cat s p).length + (s.log p).length ≤ M := by rw [← HM.out, hr]; simp only [List.length_append]; omega
      have hsucc : (cat s (p + 1)).length = (cat s p).length + (s.log p).length := by rw [cat_succ, List.length_append]
      have HSU := Lib.hid hsucc
      have hcut : ((cat s N).drop (cat s p).length).take (s.log p).length = s.log p := by rw [hr, List.drop_left, List.take_left]
      have HC := Lib.hid hcut
      clear hr hcut hsucc
      generalize (cat s p).length = A at *
      generalize hB : (s.log p).length = B at *
      have hw2 : IntKind.i64.wrap ((M : Int) - (A : Int)) = (M : Int) - (A : Int) := Go.IntWalk.i64_in _ (by omega)
      have hw3 : IntKind.i64.wrap ((A : Int) + (B : Int)) = (A : Int) + (B : Int) := Go.IntWalk.i64_in _ (by omega)
      have hz3 : ¬ ((M : Int) - (A : Int) < (B : Int)) := by omega
      have HB := Lib.hid hB
      clear hB
      go_wp2_with fail
      refine CPW.out.mono ?_
      rintro e w' ⟨rfl, rfl⟩
      clear CPW
      go_wp2_with fail
      refine C1.out.mono ?_
      rintro e w2 ⟨lv', rfl, ol, b2⟩
      have q2 := Lib.hid (q.trans (b2.mono q.size))
      obtain ⟨la, lc, rfl⟩ := ol.shape
      rw [HB.out]
      have hRW := HR.out.keep q2.out
      obtain ⟨v', hrun, hv'⟩ := run_slice_recs hRW (lo := (A : Int)) (hi := (A : Int) + (B : Int)) (by omega) (by omega) (by rw [HM.out]; omega)
      have e1 : ((A : Int) + (B : Int)).toNat - (A : Int).toNat = B := by omega
      rw [e1, Int.toNat_natCast, HC.out] at hv'
      have C2 := Lib.hid (records_true w2 hv' ol.recs)
      rw [HB.out] at C2
      clear C1 b2 ol hv' hRW e1 q
      go_wp2_with fail
      refine C2.out.mono ?_
      rintro e w3 ⟨rfl, b3⟩
      have q3 := q2.out.trans (b3.mono q2.out.size)
      clear C2 b3 hrun q2
      go_wp2_with fail
      go_roundg (N - (p + 1))
      case measure => omega
      case rel => exact ⟨p + 1, hlt, rfl, (by first | rfl | simp), (by rw [HSU.out]; first | rfl | simp), q3⟩
    · obtain rfl : N = p := by omega
      have hz2 : ¬ ((N : Int) < (N : Int)) := by omega
      rw [HM.out]
      have hE : ((M : Int) == (M : Int)) = true := by simp
      go_wp2_with fail
      refine CPW.out.mono ?_
      rintro e w' ⟨rfl, rfl⟩
      go_wp2_with fail
      go_ret
      exact ⟨rfl, q⟩
end
/-- the same logs -/
def Sim (s S : St) : Prop := s.n = S.n ∧ s.log = S.log
theorem Sim.fits {s S : St} (h : Sim s S) (l : List Int) : fits s l = fits S l := by
  unfold Go.Proofs.Ytbckfoldjlgabaa.fits; rw [h.1, h.2]
theorem Sim.betw {s S : St} (h : Sim s S) (l l' : List Int) (n : Nat) : betw s l l' n = betw S l l' n := by
  have : seg s l l' = seg S l l' := by funext i; unfold seg; rw [h.2]
  unfold Go.Proofs.Ytbckfoldjlgabaa.betw; rw [this]
theorem sim_lsum {s S : St} (h : Sim s S) (l : List Int) : ∀ n, lsum s l n = lsum S l n
  | 0 => rfl
  | n + 1 => by show lsum s l n + _ = lsum S l n + _; rw [sim_lsum h l n, h.2]
theorem Sim.cat {s S : St} (h : Sim s S) (n : Nat) : cat s n = cat S n := by unfold Go.Proofs.Ytbckfoldjlgabaa.cat; rw [h.2]
theorem Sim.sw {s S : St} (h : Sim s S) (p : Int) (on : Bool) : Sim (s.sw p on) S := by
  unfold St.sw
  split
  · exact h
  · exact h
theorem fits_iff {s : St} {l : List Int} : fits s l = true ↔ l.length = s.n ∧ ∀ i, i < s.n → 0 ≤ l.getD i 0 ∧ l.getD i 0 ≤ (s.log i).length := by
  unfold fits
  rw [decide_eq_true_iff]
  constructor
  · rintro ⟨h1, h2⟩; exact ⟨h1, fun i hi => h2 i (by omega)⟩
  · rintro ⟨h1, h2⟩; exact ⟨h1, fun i hi => h2 i (by omega)⟩
theorem tos_len (s : St) (l : List Int) (k : Int) : (tos s l k).length = s.n := by unfold tos; exact toL_len
theorem tos_at {s : St} {l : List Int} {k : Int} {i : Nat} (h : i < s.n) : (tos s l k).getD i 0 = nxt s l k i := by unfold tos; exact toL_getD h
theorem tos_fits {s : St} (hs : s.ok) {l : List Int} {k : Int} (h0 : 1 ≤ k) (h1 : k ≤ 16) (h : fits s l = true) : fits s (tos s l k) = true ∧ fwd l (tos s l k) = true := by
  rw [fits_iff] at *
  refine ⟨⟨tos_len _ _ _, fun i hi => ?_⟩, decide_eq_true ⟨by rw [tos_len]; exact h.1, fun i hi => ?_⟩⟩
  · rw [tos_at hi]
    have := nxt_ok hs h0 h1 hi (h.2 i hi)
    omega
  · rw [tos_at (by omega)]
    exact (nxt_ok hs h0 h1 (by omega) (h.2 i (by omega))).2.1
theorem form_tos {s : St} {l : List Int} {k : Int} (h0 : 1 ≤ k) (h1 : k ≤ 16) (h : fits s l = true) : form s l k = (tos s l k, betw s l (tos s l k) s.n, 0) := by
  unfold form; rw [if_neg (by omega), if_pos h]
theorem again_of {s : St} {l l' : List Int} (h : fits s l = true) (h' : fits s l' = true) (hf : fwd l l' = true) : again s l l' = (betw s l l' s.n, 0) := by
  unfold again; rw [if_pos ⟨h, h', hf⟩]
theorem lsum_fwd {s : St} {l l' : List Int} (hf : ∀ i, i < s.n → l.getD i 0 ≤ l'.getD i 0) : ∀ n, n ≤ s.n → lsum s l' n ≤ lsum s l n ∧ ((∃ i, i < n ∧ l.getD i 0 < l'.getD i 0) → lsum s l' n < lsum s l n)
  | 0, _ => ⟨Int.le_refl _, fun ⟨i, hi, _⟩ => absurd hi (Nat.not_lt_zero _)⟩
  | n + 1, h => by
    have h1 := lsum_fwd hf n (by omega)
    have h2 := hf n (by omega)
    show lsum s l' n + _ ≤ lsum s l n + _ ∧ (_ → lsum s l' n + _ < lsum s l n + _)
    refine ⟨by omega, fun ⟨i, hi, hl⟩ => ?_⟩
    by_cases hin : i = n
    · subst hin; omega
    · have := h1.2 ⟨i, by omega, hl⟩; omega
theorem lsum_moves {s : St} {l l' : List Int} (h : fits s l = true) (hf : fwd l l' = true) : lsum s l' s.n ≤ lsum s l s.n ∧ (eqI l l' = false → lsum s l' s.n < lsum s l s.n) := by
  rw [fits_iff] at h
  have hf := of_decide_eq_true hf
  have h1 := lsum_fwd (s := s) (l := l) (l' := l') (fun i hi => hf.2 i (by omega)) s.n (Nat.le_refl _)
  refine ⟨h1.1, fun he => h1.2 ?_⟩
  have hne : l ≠ l' := of_decide_eq_false he
  by_cases hx : ∃ i, i < s.n ∧ l.getD i 0 < l'.getD i 0
  · exact hx
  · exfalso
    apply hne
    apply List.ext_getElem hf.1
    intro i hi hj
    have e1 := hf.2 i hi
    have e2 : ¬ l.getD i 0 < l'.getD i 0 := fun h' => hx ⟨i, by omega, h'⟩
    rw [List.getD_eq_getElem?_getD, List.getD_eq_getElem?_getD, List.getElem?_eq_getElem hi, List.getElem?_eq_getElem hj] at e1 e2
    simp only [Option.getD_some] at e1 e2
    omega
/-- with all partitions on and nothing moved all is read -/
theorem all_read {s : St} {l : List Int} {k : Int} (h0 : 1 ≤ k) (hon : ∀ i, i < s.n → s.off i = false) (he : eqI l (tos s l k) = true) : ∀ i, i < s.n → l.getD i 0 = (s.log i).length := by
  intro i hi
  have he : l = tos s l k := of_decide_eq_true he
  have h1 : l.getD i 0 = nxt s l k i := by
    have := tos_at (l := l) (k := k) hi
    rw [← he] at this
    exact this
  unfold nxt at h1
  rw [if_neg (by rw [hon i hi]; decide)] at h1
  omega
theorem lsum_all {s : St} {l : List Int} (h : ∀ i, i < s.n → l.getD i 0 = (s.log i).length) : ∀ n, n ≤ s.n → lsum s l n = 0
  | 0, _ => rfl
  | n + 1, hn => by
    show lsum s l n + _ = 0
    rw [lsum_all h n (by omega), h n (by omega)]; omega
theorem betw_all {s : St} {z l : List Int} (hz : ∀ i, z.getD i 0 = 0) (h : ∀ i, i < s.n → l.getD i 0 = (s.log i).length) : ∀ n, n ≤ s.n → betw s z l n = cat s n
  | 0, _ => rfl
  | n + 1, hn => by
    rw [betw_succ, cat_succ, betw_all hz h n (by omega)]
    unfold seg
    rw [hz, h n (by omega)]
    simp
theorem OwnI.at {w : World} {N n cap i : Nat} {aa : Option Addr} {l : List Int} (h : OwnI w N (.slice aa n cap) l) (hi : i < n) :
    ∃ g, aa = some ⟨g, 0, none⟩ ∧ g < w.heap.size ∧ w.cell? ⟨g, i, none⟩ = some (.int .i64 (l.getD i 0)) ∧ -9223372036854775808 ≤ l.getD i 0 ∧ l.getD i 0 ≤ 9223372036854775807 := by
  obtain ⟨hk, hl, h | ⟨g, cap', rest, h1, h2, h3, h4, h5, h6⟩⟩ := h.parts
  · cases h.1; omega
  · cases h1
    refine ⟨g, rfl, h6.lt, ?_, ?_⟩
    · rw [h6.cell]
      unfold vI
      rw [List.getElem?_append_left (by simpa using hi), List.getElem?_map, List.getElem?_eq_getElem hi, List.getD_eq_getElem?_getD, List.getElem?_eq_getElem hi]
      rfl
    · rw [List.getD_eq_getElem?_getD, List.getElem?_eq_getElem hi]
      exact hk _ (List.getElem_mem hi)
set_option maxRecDepth 100000 in
set_option maxHeartbeats 16000000 in
theorem lwhole_any {z k : Int} {rv av ov v : Value} {rl : List Rc} {al ol l : List Int} {w : World} (hr : Recs w rv rl) (ha : Ints w av al) (ho : Ints w ov ol) (hv : Ints w v l) :
    Calls Try.prog 5 #[.agg #[.int .i64 z, rv, av, ov], .int .i64 k, v] w fun e w' => e = .returned (.bool true) ∧ Below w.heap.size w w' := by
  have C0 := Lib.hid (fun W => pawake_any W)
  have C2 := Lib.hid (fun W (hW : Below w.heap.size w W) (h1 : 1 ≤ z) (h4 : z ≤ 4) => filled_any (z := z) (hr.keep hW) (ha.keep hW) (ho.keep hW) h1 h4)
  have C3 := Lib.hid (fun W (hW : Below w.heap.size w W) (h : z < 1 ∨ 4 < z) => filled_none (z := z) (hr.keep hW) (ha.keep hW) (ho.keep hW) h)
  obtain ⟨ra, rn, rcap, _, _, _, rfl, -⟩ := hr
  obtain ⟨aa, an, acap, _, _, _, rfl, -⟩ := ha
  obtain ⟨oa, on, ocap, _, _, _, rfl, -⟩ := ho
  have HV := Lib.hid hv
  obtain ⟨va, n, vc, vb, vo, p, rfl, rfl, hva, hvr, hvc, hvm⟩ := hv
  obtain ⟨kk, hkk⟩ : ∃ kk : Int, k % 18446744073709551616 % 16 = kk := ⟨_, rfl⟩
  have k0 : 0 ≤ kk := by omega
  have k1 : kk ≤ 15 := by omega
  have k2 : IntKind.u64.wrap k = k % 18446744073709551616 := IntKind.wrap_u64 _
  have k3 : 0 ≤ k % 18446744073709551616 := Int.emod_nonneg _ (by decide)
  have k4 : Int.tmod (k % 18446744073709551616) 16 = kk := (tmod_pos k3).trans hkk
  have k8 : IntKind.i64.wrap kk = kk := Go.IntWalk.i64_in _ (by omega)
  have k9 : IntKind.u64.wrap kk = kk := by rw [IntKind.wrap_u64]; omega
  have k10 : IntKind.i64.wrap (1 + kk) = 1 + kk := Go.IntWalk.i64_in _ (by omega)
  generalize k % 18446744073709551616 = uu at *
  have HVR := Lib.hid hvr
  have HVA := Lib.hid hva
  have HL : Hid (n ≤ 17592186043904) := Lib.hid hvm.2
  clear hvr hva hkk hvm hvc
  go_enter Try.func5, Try.ntmps5
  go_wp2_with fail
  refine (C0.out _).mono ?_
  rintro e w1 ⟨rfl, b1⟩
  have B : Blk w1 (w.heap.size) [.int .i64 z, .slice ra rn rcap, .slice aa an acap, .slice oa on ocap] 25 := Blk.below (by repeat' (first | with_reducible assumption | (show (_ : List Value) = _; rfl) | with_reducible exact Blk.new _ _ rfl | (with_reducible refine Blk.new _ _ ?_; simp; done) | with_reducible apply Blk.set_eq | with_reducible apply Blk.other | with_reducible apply Blk.alloc | with_reducible apply Blk.drew | (simp; done) | (simp; omega))) b1; have Bc0 : w1.cell? ⟨w.heap.size, 0, none⟩ = some (.int .i64 z) := B.cell 0; have Bc1 : w1.cell? ⟨w.heap.size, 1, none⟩ = some (.slice ra rn rcap) := B.cell 1; have Bc2 : w1.cell? ⟨w.heap.size, 2, none⟩ = some (.slice aa an acap) := B.cell 2; have Bc3 : w1.cell? ⟨w.heap.size, 3, none⟩ = some (.slice oa on ocap) := B.cell 3; have Bf0 : w1.frozen? ⟨w.heap.size, 0, none⟩ = false := B.free 0; have Bf1 : w1.frozen? ⟨w.heap.size, 1, none⟩ = false := B.free 1; have Bf2 : w1.frozen? ⟨w.heap.size, 2, none⟩ = false := B.free 2; have Bf3 : w1.frozen? ⟨w.heap.size, 3, none⟩ = false := B.free 3; have Bz := B.lt
  have p1 : Below w.heap.size w w1 := (by repeat' (first | with_reducible exact Below.refl _ _ | with_reducible assumption | with_reducible refine bel_drew ?_ | with_reducible refine bel_alloc ?_ _ | with_reducible refine bel_set ?_ ?_ _ | with_reducible refine bel_call ?_ (by assumption) | (dsimp only; omega) | (simp; done) | (simp; omega)))
  clear b1 C0 B
  by_cases hz : 1 ≤ z ∧ z ≤ 4
  · go_wp2_with fail
    refine (C2.out _ p1 hz.1 hz.2).mono ?_
    rintro e w2 ⟨sb, tb, rfl, two, b2⟩
    have p2 : Below w.heap.size w w2 := p1.trans (b2.mono p1.size)
    obtain ⟨pb, mb, lv, lg, gb, ob, lv', lg', hS, hT, _⟩ := two.out
    have HSRC := Lib.hid hS
    have hpb : w.heap.size ≤ pb := by have := hS.low.2.1; have := p1.size; omega
    have CP := Lib.hid (sparts_any hS.src)
    have hok := hS.src.ok
    clear two hS hT b2 C2 C3 Bc0 Bc1 Bc2 Bc3 Bf0 Bf1 Bf2 Bf3 Bz p1
    generalize fill z rl al ol = S at *
    clear hz
    go_wp2_with fail
    refine CP.out.mono ?_
    rintro e w' ⟨rfl, rfl⟩
    obtain ⟨N, hN⟩ : ∃ N, S.n = N := ⟨_, rfl⟩
    rw [hN]
    have HN := Lib.hid hN
    have hN4 : N ≤ 4 := by have := hok.n4; omega
    have HOK := Lib.hid hok
    clear CP hN hok
    go_wp2_with fail
    obtain ⟨w3, m3, o3, b3⟩ := run_make_ints w2 w2.heap.size N .i64 .i64 (by omega) (Nat.le_refl _)
    rw [m3]
    go_wp2_with fail
    obtain ⟨w4, m4, o4, b4⟩ := run_make_ints w3 w2.heap.size N .i64 .i64 (by omega) b3.size
    rw [m4]
    have q4 := Lib.hid (b3.trans (b4.mono b3.size))
    have HS4 := Lib.hid (HSRC.out.keep q4.out)
    have O3 := Lib.hid (o3.keep b4)
    have O4 := Lib.hid o4
    have p4 := p2.trans (q4.out.mono p2.size)
    have hZ : Hid (∀ i, (toL N (fun _ => (0 : Int))).getD i 0 = 0) := Lib.hid (toL_zero_getD N)
    have hZn : Hid ((toL N (fun _ => (0 : Int))).length = N) := Lib.hid toL_len
    have hs4 : w2.heap.size ≤ w4.heap.size := q4.out.size
    clear m3 m4 o3 o4 b3 b4 HSRC q4
    generalize toL N (fun _ => (0 : Int)) = Z at *
    generalize (Value.slice (some ⟨w2.heap.size, 0, none⟩) N N) = v3 at *
    generalize (Value.slice (some ⟨w3.heap.size, 0, none⟩) N N) = v4 at *
    have hfz : Hid (fits S Z = true) := Lib.hid (fits_iff.2 ⟨hZn.out.trans HN.out.symm, fun i hi => by rw [hZ.out]; omega⟩)
    have hl0 : Hid (∀ E, fits S E = true → 0 ≤ lsum S E N ∧ lsum S E N ≤ 1024) := Lib.hid (fun E hE => by
      have := lsum_in HOK.out hE N (Nat.le_of_eq HN.out.symm)
      omega)
    go_wp2_with fail
    go_loopg [11, 13] (n + (lsum S Z N).toNat) (fun g' s11 s13 wr => ∃ (r : Nat) (E : List Int) (s' : St), (r ≤ n ∨ r + (lsum S E N).toNat ≤ n + 1024) ∧ g' = (n - r) + (lsum S E N).toNat ∧ s13 = .int .i64 r ∧ Sim s' S ∧ SrcF wr (w1.heap.size + 1) sb pb mb lv lg s' ∧ fits S E = true ∧ OwnI wr w2.heap.size s11 E ∧ OwnI wr w2.heap.size v4 Z ∧ Below w.heap.size w wr ∧ w2.heap.size ≤ wr.heap.size)
    case atStart => exact ⟨0, Z, S, .inl (Nat.zero_le _), by rw [Nat.sub_zero], rfl, ⟨rfl, rfl⟩, HS4.out, hfz.out, O3.out, O4.out, p4, hs4⟩
    case round =>
      obtain ⟨r, E, s', hrb, rfl, rfl, hsim, hsrc, hfit, own, own0, q, hsz⟩ := hrel
      rename World => wa
      have hlE := hl0.out E hfit
      have hr63 : IntKind.i64.wrap ((r : Int) + 1) = (r : Int) + 1 := Go.IntWalk.i64_in _ (by have := HL.out; omega)
      have HSIM := Lib.hid hsim
      have HSR := Lib.hid hsrc
      have HFIT := Lib.hid hfit
      have OE := Lib.hid own
      have OZ := Lib.hid own0
      have QA := Lib.hid q
      have HRB := Lib.hid hrb
      have HLE := Lib.hid hlE
      clear hsim hsrc hfit own own0 q HS4 O3 O4 p4 hrb hlE
      go_wp2_with fail
      go_loopg [14] N (fun g' s14 wr => ∃ (i : Nat) (s2 : St), i ≤ N ∧ g' = N - i ∧ s14 = .int .i64 i ∧ Sim s2 S ∧ SrcF wr (w1.heap.size + 1) sb pb mb lv lg s2 ∧ (∀ j, j < i → s2.off j = decide (r < n ∧ p r = (j : Int))) ∧ Upd wa wr (fun x => x = pb))
      case atStart => exact ⟨0, s', Nat.zero_le _, rfl, rfl, HSIM.out, HSR.out, fun j h => absurd h (Nat.not_lt_zero _), Upd.refl _ _⟩
      case round =>
        obtain ⟨i, s2, hi, rfl, rfl, hsim2, hsrc2, hoff, up⟩ := hrel
        by_cases hlt : i < N
        · have hz2 : (i : Int) < (N : Int) := by omega
          have hw1 : IntKind.i64.wrap ((i : Int) + 1) = (i : Int) + 1 := Go.IntWalk.i64_in _ (by omega)
          have his : i < s2.n := by rw [hsim2.1, HN.out]; exact hlt
          have HOFF := Lib.hid hoff
          have HS2 := Lib.hid hsim2
          have UP := Lib.hid up
          have hnext : ∀ on : Bool, (!on) = decide (r < n ∧ p r = (i : Int)) → ∀ j, j < i + 1 → (s2.sw i on).off j = decide (r < n ∧ p r = (j : Int)) := fun on ho j hj => by
            rw [sw_in on his]
            show (if j = i then !on else s2.off j) = _
            by_cases hji : j = i
            · rw [if_pos hji, hji]; exact ho
            · rw [if_neg hji]; exact HOFF.out j (by omega)
          have HNX := Lib.hid hnext
          have CS := Lib.hid (fun on => sswitch_any (p := (i : Int)) (on := on) hsrc2)
          clear hoff hsim2 up hnext his hsrc2
          by_cases hrn : r < n
          · have hz4 : ¬ ((n : Int) ≤ (r : Int)) := by omega
            obtain rfl := HVA.out (by omega)
            have hnums := HVR.out (by omega)
            have y0 : wr.cell? ⟨vb, vo + r, none⟩ = some (.int .i64 (p r)) := by
              have h1 : Below w.heap.size w wr := QA.out.trans (UP.out.below QA.out.size (fun x hx => by rw [hx]; exact hpb))
              exact (h1.cell (p := ⟨vb, vo + r, none⟩) hnums.lt).trans (hnums.c r hrn)
            have y1 : vb < wr.heap.size := by
              have h1 : Below w.heap.size w wr := QA.out.trans (UP.out.below QA.out.size (fun x hx => by rw [hx]; exact hpb))
              exact Nat.lt_of_lt_of_le hnums.lt h1.size
            have hb : (!(p r != (i : Int))) = decide (r < n ∧ p r = (i : Int)) := by
              rw [Bool.eq_iff_iff]; simp [hrn]
            obtain ⟨on, hon⟩ : ∃ on, (p r != (i : Int)) = on := ⟨_, rfl⟩
            rw [hon] at hb
            have HX := Lib.hid (HNX.out _ hb)
            clear hnums hb HNX
            go_wp2_with fail
            refine (CS.out on).mono ?_
            rintro e w5 ⟨⟨er, rfl⟩, hs5, up5⟩
            have H5 := Lib.hid hs5
            have U5 := Lib.hid (UP.out.trans up5 (fun _ _ h => h))
            clear hs5 up5 CS UP y0 y1
            go_wp2_with fail
            go_roundg (N - (i + 1))
            case measure => omega
            case rel => exact ⟨i + 1, _, hlt, rfl, (by first | rfl | simp), HS2.out.sw _ _, H5.out, HX.out, U5.out⟩
          · have hz4 : (n : Int) ≤ (r : Int) := by omega
            have hb : (!true) = decide (r < n ∧ p r = (i : Int)) := by
              rw [Bool.eq_iff_iff]; simp [hrn]
            have HX := Lib.hid (HNX.out _ hb)
            clear hb HNX
            go_wp2_with fail
            refine (CS.out true).mono ?_
            rintro e w5 ⟨⟨er, rfl⟩, hs5, up5⟩
            have H5 := Lib.hid hs5
            have U5 := Lib.hid (UP.out.trans up5 (fun _ _ h => h))
            clear hs5 up5 CS UP
            go_wp2_with fail
            go_roundg (N - (i + 1))
            case measure => omega
            case rel => exact ⟨i + 1, _, hlt, rfl, (by first | rfl | simp), HS2.out.sw _ _, H5.out, HX.out, U5.out⟩
        · obtain rfl : N = i := by omega
          have hz2 : ¬ ((N : Int) < (N : Int)) := by omega
          rename World => wb
          have HOFF := Lib.hid hoff
          have HS2 := Lib.hid hsim2
          have hw2b : w2.heap.size ≤ wb.heap.size := Nat.le_trans hsz up.size
          have UP := Lib.hid up
          have HF2 := Lib.hid hsrc2
          have QB := Lib.hid (QA.out.trans (up.below QA.out.size (fun x hx => by rw [hx]; exact hpb)))
          have OEB := Lib.hid (OE.out.upd up (fun k hk he => kind_ne (OE.out.kind hk) HSR.out.src.pt.kind (by decide) he))
          have OZB := Lib.hid (OZ.out.upd up (fun k hk he => kind_ne (OZ.out.kind hk) HSR.out.src.pt.kind (by decide) he))
          have CF := sform_any (k := 1 + kk) hsrc2.src OEB.out.ints
          rw [form_tos (by omega) (by omega) (by rw [hsim2.fits]; exact HFIT.out)] at CF
          have CF := Lib.hid CF
          clear hi hlt hoff hsim2 up hsrc2
          go_wp2_with fail
          refine CF.out.mono ?_
          rintro e w5 ⟨tv, fv, rfl, ot, of, b5⟩
          have hT2 := tos_fits (k := 1 + kk) HF2.out.src.ok (by omega) (by omega) (show fits s2 E = true by rw [HS2.out.fits]; exact HFIT.out)
          have hT1 : fits S (tos s2 E (1 + kk)) = true := by rw [← HS2.out.fits]; exact hT2.1
          have hNX : Hid (∀ i, i < N → 0 ≤ E.getD i 0 ∧ E.getD i 0 ≤ 256 ∧ E.getD i 0 ≤ (tos s2 E (1 + kk)).getD i 0 ∧ (tos s2 E (1 + kk)).getD i 0 - E.getD i 0 ≤ 1 + kk ∧ (decide (r < n ∧ p r = (i : Int)) = true → (tos s2 E (1 + kk)).getD i 0 = E.getD i 0) ∧ (decide (r < n ∧ p r = (i : Int)) = false → (tos s2 E (1 + kk)).getD i 0 - E.getD i 0 < 1 + kk → (tos s2 E (1 + kk)).getD i 0 = (S.log i).length)) := Lib.hid (fun i hi => by
            have his : i < s2.n := by rw [HS2.out.1, HN.out]; exact hi
            have hE := (fits_iff.1 HFIT.out).2 i (by rw [HN.out]; exact hi)
            have hlog := HOK.out.le i (by rw [HN.out]; exact hi)
            rw [tos_at his, ← HOFF.out i hi]
            unfold nxt
            rw [HS2.out.2]
            cases s2.off i
            · rw [if_neg (by decide)]; exact ⟨hE.1, by omega, by omega, by omega, (fun h => by cases h), (fun _ h => by omega)⟩
            · rw [if_pos rfl]; exact ⟨hE.1, by omega, by omega, by omega, (fun _ => rfl), (fun h => by cases h)⟩)
          have hEnd : Hid (¬ r < n → eqI E (tos s2 E (1 + kk)) = true → ∀ i, i < S.n → E.getD i 0 = (S.log i).length) := Lib.hid (fun hr he i hi => by
            have := all_read (s := s2) (l := E) (k := 1 + kk) (by omega) (fun i hi => by rw [HOFF.out i (by rw [HS2.out.1, HN.out] at hi; exact hi)]; exact decide_eq_false (fun h => hr h.1)) he i (by rw [HS2.out.1]; exact hi)
            rw [HS2.out.2] at this; exact this)
          have hbw : Hid (∀ s3 : St, Sim s3 S → again s3 E (tos s2 E (1 + kk)) = (betw s2 E (tos s2 E (1 + kk)) s2.n, 0)) := Lib.hid (fun s3 h3 => by
            rw [again_of (by rw [h3.fits]; exact HFIT.out) (by rw [h3.fits]; exact hT1) hT2.2, h3.betw, HS2.out.betw, h3.1, HS2.out.1])
          have hTl : (tos s2 E (1 + kk)).length = N := by rw [tos_len, HS2.out.1, HN.out]
          have HT2 := Lib.hid hT2.2
          have HT1 := Lib.hid hT1
          generalize betw s2 E (tos s2 E (1 + kk)) s2.n = R at *
          generalize tos s2 E (1 + kk) = T at *
          obtain ⟨tx, tc, rfl⟩ := ot.ints.shape
          have hEl : E.length = N := (fits_iff.1 HFIT.out).1.trans HN.out
          obtain ⟨ex, ec, rfl⟩ := OEB.out.ints.shape
          rw [hTl] at ot
          rw [hEl] at OEB
          rw [hTl, hEl]
          have OT := Lib.hid (ot.base (Nat.le_refl _))
          have OF := Lib.hid of
          have HF5 := Lib.hid (HF2.out.keep b5)
          have OE5 := Lib.hid (OEB.out.keep b5)
          have OZ5 := Lib.hid (OZB.out.keep b5)
          have Q5 := Lib.hid (QB.out.trans (b5.mono QB.out.size))
          have CW := forward_any w5 OE5.out.ints OT.out.ints
          rw [HT2.out] at CW
          have CW := Lib.hid CW
          have hbz := b5.size
          have hEN : ((N : Int) != (N : Int)) = false := by simp
          clear ot of hT2 hT1 hTl hEl CF HF2 OEB OZB QB b5 OE OZ UP HSR
          go_wp2_with fail
          refine CW.out.mono ?_
          rintro e w6 ⟨rfl, b6⟩
          have h56 : w5.heap.size ≤ w6.heap.size := b6.size
          have OT6 := Lib.hid (OT.out.keep b6)
          have OF6 := Lib.hid (OF.out.keep b6)
          have HF6 := Lib.hid (HF5.out.keep b6)
          have OE6 := Lib.hid (OE5.out.keep b6)
          have OZ6 := Lib.hid (OZ5.out.keep b6)
          have Q6 := Lib.hid (Q5.out.trans (b6.mono Q5.out.size))
          clear CW OT OF HF5 OE5 OZ5 Q5 b6
          go_wp2_with fail
          go_loopg [18] N (fun g' s18 wr => ∃ (i : Nat) (s3 : St), i ≤ N ∧ g' = N - i ∧ s18 = .int .i64 i ∧ Sim s3 S ∧ SrcF wr (w1.heap.size + 1) sb pb mb lv lg s3 ∧ (∀ j, i ≤ j → j < N → s3.off j = decide (r < n ∧ p r = (j : Int))) ∧ Upd w6 wr (fun x => x = pb))
          case atStart => exact ⟨0, s2, Nat.zero_le _, rfl, rfl, HS2.out, HF6.out, fun j _ h => HOFF.out j h, Upd.refl _ _⟩
          case round =>
            obtain ⟨i, s3, hi, rfl, rfl, hsim3, hsrc3, hoff3, up⟩ := hrel
            by_cases hlt : i < N
            · have hz2' : (i : Int) < (N : Int) := by omega
              have hw1 : IntKind.i64.wrap ((i : Int) + 1) = (i : Int) + 1 := Go.IntWalk.i64_in _ (by omega)
              have his : i < s3.n := by rw [hsim3.1, HN.out]; exact hlt
              have ot3 := OT6.out.upd up (fun k hk he => kind_ne (OT6.out.kind hk) HF6.out.src.pt.kind (by decide) he)
              have oe3 := OE6.out.upd up (fun k hk he => kind_ne (OE6.out.kind hk) HF6.out.src.pt.kind (by decide) he)
              obtain ⟨gt, htx, lt1, tc0, _, _⟩ := ot3.at hlt
              obtain ⟨ge, hex, lt2, ec0, _, _⟩ := oe3.at hlt
              subst htx
              subst hex
              have hnx := hNX.out i hlt
              have hup := hoff3 i (Nat.le_refl _) hlt
              have CU := Lib.hid (fun W (hW : Below wr.heap.size wr W) => sup_any (hsrc3.src.keep hW) his)
              have CL := Lib.hid (fun W (hW : Below wr.heap.size wr W) => slen_any (hsrc3.src.keep hW) his)
              rw [hup] at CU
              rw [hsim3.2] at CL
              have CS := Lib.hid (fun W (hW : Below wr.heap.size wr W) => sswitch_any (p := (i : Int)) (on := false) (hsrc3.keep hW))
              have hgo : ∀ j, i + 1 ≤ j → j < N → (s3.sw i false).off j = decide (r < n ∧ p r = (j : Int)) := fun j h1 h2 => by
                rw [sw_in false his]
                show (if j = i then _ else s3.off j) = _
                rw [if_neg (by omega)]
                exact hoff3 j (by omega) h2
              have HGO := Lib.hid hgo
              have HS3 := Lib.hid hsim3
              have UP3 := Lib.hid up
              generalize decide (r < n ∧ p r = (i : Int)) = off at *
              generalize T.getD i 0 = tI at *
              generalize E.getD i 0 = eI at *
              have hlogI : (S.log i).length ≤ 256 := HOK.out.le i (by rw [HN.out]; exact hlt)
              generalize (S.log i).length = mI at *
              obtain ⟨dI, hd⟩ : ∃ d, tI - eI = d := ⟨_, rfl⟩
              have hwd : IntKind.i64.wrap (tI - eI) = dI := (Go.IntWalk.i64_in _ (by omega)).trans hd
              have hd0 : (1 + kk < dI) = False := eq_false (by omega)
              have HNXI := Lib.hid hnx
              have HD := Lib.hid hd
              clear hoff3 hsim3 up hgo hup ot3 oe3 hsrc3 hnx hd hi
              cases off with
              | true =>
                have hne : (tI != eI) = false := by have := HNXI.out.2.2.2.2.1 rfl; simp [this]
                clear HNXI HD
                go_wp2_with fail
                refine wp_region_below (by kernel_rfl) (by kernel_rfl) ?_
                iterate 56 (first | (refine lex_skip (by rfl) (fun _ _ _ _ h => h) ?_; simp only [Act.put, List.setIfInBounds_toArray, List.set_cons_zero, List.set_cons_succ]) | (refine lex_op (by rfl) ?_; apply Exists.intro; refine ⟨?_, ?_⟩; ((intro _ _ _ _ hT; obtain ⟨hc, hf⟩ := bcell hT; go_simp; first | exact rfl | (exact (CU.out _ hT).mono fun e w'' h => ⟨h.1, h.2 ▸ hT⟩) | (exact (CL.out _ hT).mono fun e w'' h => ⟨h.1, h.2 ▸ hT⟩))); simp only [Act.put, List.setIfInBounds_toArray, List.set_cons_zero, List.set_cons_succ]))
                refine lex_nil ?_
                intro w7 bel7
                have B7 := Lib.hid bel7
                clear bel7 CU CL tc0 ec0 lt1 lt2
                go_wp2_with fail
                refine (CS.out _ B7.out).mono ?_
                rintro e w8 ⟨⟨er, rfl⟩, hs8, up8⟩
                have H8 := Lib.hid hs8
                have U8 := Lib.hid ((UP3.out.trans (Upd.of_below B7.out) (fun _ _ h => h)).trans up8 (fun _ _ h => h))
                clear hs8 up8 CS B7 UP3
                go_wp2_with fail
                go_roundg (N - (i + 1))
                case measure => omega
                case rel => exact ⟨i + 1, _, hlt, rfl, (by first | rfl | simp), HS3.out.sw _ _, H8.out, HGO.out, U8.out⟩
              | false =>
                by_cases hdk : dI < 1 + kk
                · have hdk' : (dI < 1 + kk) = True := eq_true hdk
                  have hne : (tI != (mI : Int)) = false := by have := HNXI.out.2.2.2.2.2 rfl (by have := HD.out; omega); simp [this]
                  clear HNXI HD hdk
                  go_wp2_with fail
                  refine wp_region_below (by kernel_rfl) (by kernel_rfl) ?_
                  iterate 56 (first | (refine lex_skip (by rfl) (fun _ _ _ _ h => h) ?_; simp only [Act.put, List.setIfInBounds_toArray, List.set_cons_zero, List.set_cons_succ]) | (refine lex_op (by rfl) ?_; apply Exists.intro; refine ⟨?_, ?_⟩; ((intro _ _ _ _ hT; obtain ⟨hc, hf⟩ := bcell hT; go_simp; first | exact rfl | (exact (CU.out _ hT).mono fun e w'' h => ⟨h.1, h.2 ▸ hT⟩) | (exact (CL.out _ hT).mono fun e w'' h => ⟨h.1, h.2 ▸ hT⟩))); simp only [Act.put, List.setIfInBounds_toArray, List.set_cons_zero, List.set_cons_succ]))
                  refine lex_nil ?_
                  intro w7 bel7
                  have B7 := Lib.hid bel7
                  clear bel7 CU CL tc0 ec0 lt1 lt2
                  go_wp2_with fail
                  refine (CS.out _ B7.out).mono ?_
                  rintro e w8 ⟨⟨er, rfl⟩, hs8, up8⟩
                  have H8 := Lib.hid hs8
                  have U8 := Lib.hid ((UP3.out.trans (Upd.of_below B7.out) (fun _ _ h => h)).trans up8 (fun _ _ h => h))
                  clear hs8 up8 CS B7 UP3
                  go_wp2_with fail
                  go_roundg (N - (i + 1))
                  case measure => omega
                  case rel => exact ⟨i + 1, _, hlt, rfl, (by first | rfl | simp), HS3.out.sw _ _, H8.out, HGO.out, U8.out⟩
                · have hdk' : (dI < 1 + kk) = False := eq_false hdk
                  clear HNXI HD hdk
                  go_wp2_with fail
                  refine wp_region_below (by kernel_rfl) (by kernel_rfl) ?_
                  iterate 56 (first | (refine lex_skip (by rfl) (fun _ _ _ _ h => h) ?_; simp only [Act.put, List.setIfInBounds_toArray, List.set_cons_zero, List.set_cons_succ]) | (refine lex_op (by rfl) ?_; apply Exists.intro; refine ⟨?_, ?_⟩; ((intro _ _ _ _ hT; obtain ⟨hc, hf⟩ := bcell hT; go_simp; first | exact rfl | (exact (CU.out _ hT).mono fun e w'' h => ⟨h.1, h.2 ▸ hT⟩) | (exact (CL.out _ hT).mono fun e w'' h => ⟨h.1, h.2 ▸ hT⟩))); simp only [Act.put, List.setIfInBounds_toArray, List.set_cons_zero, List.set_cons_succ]))
                  refine lex_nil ?_
                  intro w7 bel7
                  have B7 := Lib.hid bel7
                  clear bel7 CU CL tc0 ec0 lt1 lt2
                  go_wp2_with fail
                  refine (CS.out _ B7.out).mono ?_
                  rintro e w8 ⟨⟨er, rfl⟩, hs8, up8⟩
                  have H8 := Lib.hid hs8
                  have U8 := Lib.hid ((UP3.out.trans (Upd.of_below B7.out) (fun _ _ h => h)).trans up8 (fun _ _ h => h))
                  clear hs8 up8 CS B7 UP3
                  go_wp2_with fail
                  go_roundg (N - (i + 1))
                  case measure => omega
                  case rel => exact ⟨i + 1, _, hlt, rfl, (by first | rfl | simp), HS3.out.sw _ _, H8.out, HGO.out, U8.out⟩
            · obtain rfl : N = i := by omega
              have hz2 : ¬ ((N : Int) < (N : Int)) := by omega
              rename World => wc
              have OTc := Lib.hid (OT6.out.upd up (fun k hk he => kind_ne (OT6.out.kind hk) HF6.out.src.pt.kind (by decide) he))
              have OEc := Lib.hid (OE6.out.upd up (fun k hk he => kind_ne (OE6.out.kind hk) HF6.out.src.pt.kind (by decide) he))
              have OZc := Lib.hid (OZ6.out.upd up (fun k hk he => kind_ne (OZ6.out.kind hk) HF6.out.src.pt.kind (by decide) he))
              have OFc := Lib.hid (OF6.out.upd up (fun k hk he => kind_ne (OF6.out.kind hk) HF6.out.src.pt.kind (by decide) he))
              have Qc := Lib.hid (Q6.out.trans (up.below Q6.out.size (fun x hx => by rw [hx]; exact hpb)))
              have hszc : w2.heap.size ≤ wc.heap.size := Nat.le_trans (Nat.le_trans hw2b (Nat.le_trans hbz h56)) up.size
              have CA := sagain_any hsrc3.src OEc.out.ints OTc.out.ints
              rw [hbw.out s3 hsim3] at CA
              have CA := Lib.hid CA
              have HS3 := Lib.hid hsim3
              have HFc := Lib.hid hsrc3
              clear OT6 OE6 OZ6 OF6 Q6 HF6 up hsrc3 hsim3 hoff3 hi hlt HOFF
              go_wp2_with fail
              refine CA.out.mono ?_
              rintro e w9 ⟨rr, rfl, orr, b9⟩
              have C9 := Lib.hid (records_true w9 orr.recs (OFc.out.keep b9).recs)
              have B9 := Lib.hid b9
              clear orr b9 CA OFc
              go_wp2_with fail
              refine C9.out.mono ?_
              rintro e w10 ⟨rfl, b10⟩
              have B10 := Lib.hid (B9.out.trans (b10.mono B9.out.size))
              have C10 := Lib.hid (ints_any w10 (OEc.out.keep B10.out).ints (OTc.out.keep B10.out).ints)
              clear C9 b10 B9
              go_wp2_with fail
              refine C10.out.mono ?_
              rintro e w11 ⟨rfl, b11⟩
              have B11 := Lib.hid (B10.out.trans (b11.mono B10.out.size))
              clear C10 b11 B10
              have hmv := lsum_moves HFIT.out HT2.out
              rw [HN.out] at hmv
              have hLT := hl0.out T HT1.out
              have hLE := HLE.out
              have hRB := HRB.out
              have OT11 := Lib.hid ((OTc.out.keep B11.out).base hw2b)
              have OZ11 := Lib.hid (OZc.out.keep B11.out)
              have HF11 := Lib.hid (HFc.out.keep B11.out)
              have Q11 := Lib.hid (Qc.out.trans (B11.out.mono Qc.out.size))
              have hsz11 : Hid (w2.heap.size ≤ w11.heap.size) := Lib.hid (Nat.le_trans hszc B11.out.size)
              have HMV := Lib.hid hmv
              have HLT := Lib.hid hLT
              have HLE2 := Lib.hid hLE
              have HRB2 := Lib.hid hRB
              clear hmv hLT hLE hRB OTc OEc OZc HFc Qc B11 HLE HRB
              cases hq : eqI E T with
              | false =>
                have HQ := Lib.hid hq
                clear hq
                go_wp2_with fail
                go_roundg (n - (r + 1) + (lsum S T N).toNat)
                case measure => have h1 := HMV.out.2 HQ.out; have h2 := HLT.out; have h3 := HLE2.out; omega
                case rel => exact ⟨r + 1, T, s3, by have h1 := HMV.out.2 HQ.out; have h2 := HLT.out; have h3 := HLE2.out; have h4 := HRB2.out; omega, rfl, (by first | rfl | simp), HS3.out, HF11.out, HT1.out, OT11.out, OZ11.out, Q11.out, hsz11.out⟩
              | true =>
                have HQ := Lib.hid hq
                clear hq
                by_cases hrn : r < n
                · have hz4 : ((n : Int) ≤ (r : Int)) = False := eq_false (by omega)
                  go_wp2_with fail
                  go_roundg (n - (r + 1) + (lsum S T N).toNat)
                  case measure => have h1 := HMV.out.1; have h2 := HLT.out; have h3 := HLE2.out; omega
                  case rel => exact ⟨r + 1, T, s3, .inl hrn, rfl, (by first | rfl | simp), HS3.out, HF11.out, HT1.out, OT11.out, OZ11.out, Q11.out, hsz11.out⟩
                · have hz4 : ((n : Int) ≤ (r : Int)) = True := eq_true (by omega)
                  have hall := hEnd.out hrn HQ.out
                  have hET : E = T := of_decide_eq_true HQ.out
                  have hall3 : ∀ i, i < s3.n → T.getD i 0 = (s3.log i).length := fun i hi => by
                    rw [← hET, HS3.out.2]; exact hall i (by rw [← HS3.out.1]; exact hi)
                  have CL := sleft_any HF11.out.src OT11.out.ints
                  have e1 : left s3 T = (0, 0) := by
                    unfold left
                    rw [if_pos (by rw [HS3.out.fits]; exact HT1.out), lsum_all hall3 _ (Nat.le_refl _)]
                  rw [e1] at CL
                  have CL := Lib.hid CL
                  have CA := sagain_any HF11.out.src OZ11.out.ints OT11.out.ints
                  have e2 : again s3 Z T = (cat s3 s3.n, 0) := by
                    rw [again_of (by rw [HS3.out.fits]; exact hfz.out) (by rw [HS3.out.fits]; exact HT1.out) (decide_eq_true ⟨by rw [hZn.out, (fits_iff.1 HT1.out).1, HN.out], fun i hi => by
                      rw [hZ.out]; exact ((fits_iff.1 HT1.out).2 i (by rw [HN.out, ← hZn.out]; exact hi)).1⟩), betw_all hZ.out hall3 _ (Nat.le_refl _)]
                  rw [e2] at CA
                  have CA := Lib.hid CA
                  clear hall hET hall3 e1 e2 hrn
                  go_wp2_with fail
                  refine CL.out.mono ?_
                  rintro e w' ⟨rfl, rfl⟩
                  clear CL
                  go_wp2_with fail
                  refine CA.out.mono ?_
                  rintro e w12 ⟨ar, rfl, oar, b12⟩
                  have CG := Lib.hid (slogs_any (HF11.out.keep b12).src oar.recs)
                  have Q12 := Lib.hid (Q11.out.trans (b12.mono Q11.out.size))
                  clear CA oar b12
                  go_wp2_with fail
                  refine CG.out.mono ?_
                  rintro e w13 ⟨rfl, b13⟩
                  have p13 := Q12.out.trans (b13.mono Q12.out.size)
                  clear CG b13
                  go_wp2_with fail
                  go_ret
                  exact ⟨rfl, p13⟩
  · go_wp2_with fail
    refine (C3.out _ p1 (by omega)).mono ?_
    rintro e w2 ⟨rfl, b2⟩
    have p2 : Below w.heap.size w w2 := p1.trans (b2.mono p1.size)
    clear b2
    go_wp2_with fail
    go_ret
    exact ⟨rfl, p2⟩
end Go.Proofs.Ytbckfoldjlgabaa
