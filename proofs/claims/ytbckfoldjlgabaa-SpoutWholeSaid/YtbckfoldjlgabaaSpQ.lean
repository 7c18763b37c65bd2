/- HELPERS of law07: what a call may turn; the region that appends a record to a log. WALKS of law07: the document's Produce. -/
import Derived.Test.YtbckfoldjlgabaaSpO
namespace Go.Proofs.Ytbckfoldjlgabaa
open Go.RowKit
open Fl (nan key canon)
/-- nothing but the blocks X and new ones has turned -/
structure Upd (w w' : World) (X : Nat → Prop) : Prop where
  os : w'.os = w.os
  tape : w'.tape = w.tape
  output : w'.output = w.output
  size : w.heap.size ≤ w'.heap.size
  block : ∀ b, b < w.heap.size → ¬ X b → w'.heap[b]? = w.heap[b]?
section
variable {w w' w'' : World} {X Y : Nat → Prop} {b : Nat} {cs : List Value} {t : TypeId}
theorem Upd.refl (w : World) (X : Nat → Prop) : Upd w w X := ⟨rfl, rfl, rfl, Nat.le_refl _, fun _ _ _ => rfl⟩
theorem Upd.trans (h : Upd w w' X) (k : Upd w' w'' Y) (hs : ∀ b, b < w.heap.size → Y b → X b) : Upd w w'' X :=
  ⟨k.os.trans h.os, k.tape.trans h.tape, k.output.trans h.output, Nat.le_trans h.size k.size, fun b hb hx => (k.block b (Nat.lt_of_lt_of_le hb h.size) (fun hy => hx (hs b hb hy))).trans (h.block b hb hx)⟩
theorem Upd.of_below (h : Below w.heap.size w w') : Upd w w' X := ⟨h.os, h.tape, h.output, h.size, fun b hb _ => h.block b hb⟩
theorem Upd.below (h : Upd w w' X) {N : Nat} (hN : N ≤ w.heap.size) (hx : ∀ b, X b → N ≤ b) : Below N w w' :=
  ⟨h.os, h.tape, h.output, h.size, fun b hb => h.block b (Nat.lt_of_lt_of_le hb hN) (fun hy => by have := hx b hy; omega)⟩
theorem Upd.of_grown {row : Option Nat} (h : w.grownBy w' row) (hx : ∀ b, row = some b → X b) : Upd w w' X :=
  ⟨h.os, h.tape, h.output, h.size, fun b hb hn => h.block b hb (fun e => hn (hx b e.symm))⟩
theorem Upd.of_set (a : Addr) (v : Value) (hx : X a.block) : Upd w (w.setCell a v) X :=
  ⟨rfl, rfl, rfl, by simp [World.setCell], fun b _ hn => Below.heap_setCell _ _ _ _ (fun e => hn (e ▸ hx))⟩
theorem Blk.upd (h : Blk w b cs t) (hu : Upd w w' X) (hx : ¬ X b) : Blk w' b cs t := ⟨(hu.block b h.lt hx).trans h.lies⟩
theorem ownsRow_upd {base m n : Nat} {e : TypeId} {v : Value} {xs : List Value} (h : w.ownsRow base e m v n xs) (hu : Upd w w' X) (hx : ∀ b, v.ownBlock = some b → ¬ X b) : w'.ownsRow base e m v n xs := by
  refine ⟨h.1, ?_⟩
  rcases h.2 with h | ⟨g, cap, cur, h1, h2, h3, h4⟩
  · exact .inl h
  · subst h1
    exact .inr ⟨g, cap, cur, rfl, h2, (hu.block g (Array.getElem?_eq_some_iff.1 h3).1 (hx g rfl)).trans h3, h4⟩
theorem OwnR.upd {base : Nat} {v : Value} {l : List Rc} (h : OwnR w base v l) (hu : Upd w w' X) (hx : ∀ b, v.ownBlock = some b → ¬ X b) : OwnR w' base v l :=
  let ⟨n, p, h1, h2, h3, h4⟩ := h
  ⟨n, p, h1, h2, ownsRow_upd h3 hu hx, h4⟩
theorem Lst.upd {lv : Value} (h : Lst w lv) (hu : Upd w w' X) (hx : ∀ b, lv.ownBlock = some b → ¬ X b) : Lst w' lv := ⟨ownsRow_upd h.own hu hx⟩
/-- what kind of block it is -/
theorem Blk.kind (h : Blk w b cs t) : ∃ c, w.heap[b]? = some (.cells c t (0, 0)) := ⟨_, h.lies⟩
theorem ownsRow_kind {base m n : Nat} {e : TypeId} {v : Value} {xs : List Value} (h : w.ownsRow base e m v n xs) (hb : v.ownBlock = some b) : ∃ c, w.heap[b]? = some (.cells c e (0, 0)) := by
  rcases h.2 with ⟨rfl, _⟩ | ⟨g, cap, cur, rfl, h2, h3, h4⟩
  · cases hb
  · cases hb
    exact ⟨_, h3⟩
theorem OwnR.kind {base : Nat} {v : Value} {l : List Rc} (h : OwnR w base v l) (hb : v.ownBlock = some b) : ∃ c, w.heap[b]? = some (.cells c 66 (0, 0)) :=
  let ⟨_, _, _, _, h3, _⟩ := h
  ownsRow_kind h3 hb
theorem Lst.kind {lv : Value} (h : Lst w lv) (hb : lv.ownBlock = some b) : ∃ c, w.heap[b]? = some (.cells c 73 (0, 0)) := ownsRow_kind h.own hb
theorem kind_ne {b' : Nat} {t' : TypeId} (h : ∃ c, w.heap[b]? = some (.cells c t (0, 0))) (h' : ∃ c, w.heap[b']? = some (.cells c t' (0, 0))) (hn : t ≠ t') : b ≠ b' := by
  rintro rfl
  obtain ⟨c, h⟩ := h
  obtain ⟨c', h'⟩ := h'
  rw [h] at h'
  cases h'
  exact hn rfl
end
/-- the worlds of 'x.log = append(x.log, r)': kb the list of one, ka the append, ks the store; x.log is cell i of block cb -/
structure PrC (W : World) (v : Value) (l : List Rc) (r : Rc) (cb i : Nat) (zs : List Value) (t : TypeId) (kb ka ks : Nat) (g : Nat → Value) (L : Nat → Bool) (w' : World) : Prop where
  upd : Upd W w' (fun b => b = cb ∨ v.ownBlock = some b)
  ext : L ka = false → Below W.heap.size W w'
  bs : L kb = true → L ka = false → Recs w' (g kb) [r]
  own : L ka = false → OwnR w' 0 v l
  fin : L ka = true → OwnR w' 0 (g ka) (l ++ [r]) ∧ ((g ka).ownBlock = v.ownBlock ∨ ∀ b, (g ka).ownBlock = some b → W.heap.size ≤ b)
  blk : Blk w' cb (if L ks then zs.set i (g ka) else zs) t
  low : L ks = true → L ka = true
section
variable {W w' w'' : World} {v u : Value} {l : List Rc} {r : Rc} {cb i kb ka ks : Nat} {zs : List Value} {t : TypeId} {g : Nat → Value} {L : Nat → Bool}
theorem PrC.loc (g g' : Nat → Value) (L : Nat → Bool) (w' : World) (he : ∀ i, L i = true → g i = g' i) (h : PrC W v l r cb i zs t kb ka ks g L w') : PrC W v l r cb i zs t kb ka ks g' L w' :=
  ⟨h.upd, h.ext, fun a b => by rw [← he _ a]; exact h.bs a b, h.own, fun a => by rw [← he _ a]; exact h.fin a, by
    have := h.blk
    cases hk : L ks with
    | false => rw [hk] at this; exact this
    | true =>
      rw [hk] at this
      rw [← he ka (h.low hk)]
      exact this, h.low⟩
theorem PrC.begin (n : Nat) (h1 : kb < n) (h2 : ka < n) (h3 : ks < n) (ho : OwnR w' 0 v l) (hb : Blk w' cb zs t) : PrC w' v l r cb i zs t kb ka ks g (fun j => decide (n ≤ j)) w'.drew :=
  ⟨.of_below (Below.refl _ _).drew, fun _ => (Below.refl _ _).drew, fun a => by simp at a; omega, fun _ => ho.keep (Below.refl _ _).drew, fun a => by simp at a; omega, by rw [decide_eq_false (by omega), if_neg (by decide)]; exact hb.drew, fun a => by simp at a; omega⟩
theorem PrC.step (h : PrC W v l r cb i zs t kb ka ks g L w') {j : Nat} (hj : (j != kb && j != ka && j != ks) = true) : PrC W v l r cb i zs t kb ka ks g (Go.Proofs.Ytbckfoldjlgabaa.upd L j) w' := by
  simp only [Bool.and_eq_true, bne_iff_ne, ne_eq] at hj
  obtain ⟨⟨h1, h2⟩, h3⟩ := hj
  have e1 := upd_other L (Ne.symm h1)
  have e2 := upd_other L (Ne.symm h2)
  have e3 := upd_other L (Ne.symm h3)
  exact ⟨h.upd, by rw [e2]; exact h.ext, by rw [e1, e2]; exact h.bs, by rw [e2]; exact h.own, by rw [e2]; exact h.fin, by rw [e3]; exact h.blk, by rw [e2, e3]; exact h.low⟩
theorem PrC.build (h : PrC W v l r cb i zs t kb ka ks g L w') (hn : (kb != ka && kb != ks) = true) (hka : L ka = false) (hks : L ks = false) (hok : r.ok) (hu : u = .slice (some ⟨w'.heap.size, 0, none⟩) 1 1) : PrC W v l r cb i zs t kb ka ks (RV.gset g kb u) (Go.Proofs.Ytbckfoldjlgabaa.upd L kb) (w'.alloc (.cells #[.int .u64 r.key, .float .f64 r.val] 66)) := by
  simp only [Bool.and_eq_true, bne_iff_ne, ne_eq] at hn
  have e2 := upd_other L (Ne.symm hn.1)
  have e3 := upd_other L (Ne.symm hn.2)
  have hb : Below w'.heap.size w' (w'.alloc (.cells #[.int .u64 r.key, .float .f64 r.val] 66)) := bel_alloc1 _ _
  refine ⟨h.upd.trans (.of_below (X := fun _ => False) hb) (fun _ _ h => h.elim), fun _ => bel_call (h.ext hka) hb, fun _ _ => ?_, fun _ => (h.own hka).keep hb, fun a => absurd (e2.symm.trans a) (by rw [hka]; decide), ?_, fun a => absurd (e3.symm.trans a) (by rw [hks]; decide)⟩
  · rw [RV.gset_same, hu]
    have hB : Blk (w'.alloc (.cells #[.int .u64 r.key, .float .f64 r.val] 66)) w'.heap.size [.int .u64 r.key, .float .f64 r.val] 66 := Blk.new _ _ rfl
    exact ⟨_, 1, 1, w'.heap.size, 0, fun _ => r, rfl, rfl, fun _ => rfl, fun _ => ⟨hB.lt, fun _ _ => hok, fun j hj => by
      obtain rfl : j = 0 := by omega
      exact hB.cell 0, fun j hj => by
      obtain rfl : j = 0 := by omega
      exact hB.cell 1⟩, Nat.le_refl _, by unfold maxLen; omega, by omega⟩
  · rw [e3, hks, if_neg (by decide)]
    have := h.blk
    rw [hks, if_neg (by decide)] at this
    exact this.below hb
theorem PrC.append (h : PrC W v l r cb i zs t kb ka ks g L w') (hn : (ka != ks) = true) (_ : L ka = false) (hks : L ks = false) (ho : OwnR w'' 0 u (l ++ [r])) (hg : w'.grownBy w'' v.ownBlock) (hat : u.ownBlock = v.ownBlock ∨ u.ownBlock = some w'.heap.size) (hcb : v.ownBlock ≠ some cb) : PrC W v l r cb i zs t kb ka ks (RV.gset g ka u) (Go.Proofs.Ytbckfoldjlgabaa.upd L ka) w'' := by
  simp only [bne_iff_ne, ne_eq] at hn
  have e3 := upd_other L (Ne.symm hn)
  refine ⟨h.upd.trans (.of_grown (X := fun b => b = cb ∨ v.ownBlock = some b) hg (fun b hb => .inr hb)) (fun _ _ h => h), fun a => absurd ((upd_same L ka).symm.trans a) (by decide), fun _ a => absurd ((upd_same L ka).symm.trans a) (by decide), fun a => absurd ((upd_same L ka).symm.trans a) (by decide), fun _ => ?_, ?_, fun a => absurd (e3.symm.trans a) (by rw [hks]; decide)⟩
  · rw [RV.gset_same]
    refine ⟨ho, ?_⟩
    rcases hat with h1 | h1
    · exact .inl h1
    · refine .inr (fun b hb => ?_)
      rw [h1] at hb
      cases hb
      exact h.upd.size
  · rw [e3, hks, if_neg (by decide)]
    have := h.blk
    rw [hks, if_neg (by decide)] at this
    exact this.grown hg hcb
theorem PrC.store (h : PrC W v l r cb i zs t kb ka ks g L w') (hn : (ks != ka && ks != kb) = true) (hka : L ka = true) (hks : L ks = false) (hcb : ∀ b, (g ka).ownBlock = some b → b ≠ cb) : PrC W v l r cb i zs t kb ka ks g (Go.Proofs.Ytbckfoldjlgabaa.upd L ks) (w'.setCell ⟨cb, i, none⟩ (g ka)) := by
  simp only [Bool.and_eq_true, bne_iff_ne, ne_eq] at hn
  have e2 := upd_other L (Ne.symm hn.1)
  have e1 := upd_other L (Ne.symm hn.2)
  have hu : Upd w' (w'.setCell ⟨cb, i, none⟩ (g ka)) (fun b => b = cb) := .of_set _ _ rfl
  refine ⟨h.upd.trans hu (fun b _ h => .inl h), fun a => absurd (e2.symm.trans a) (by rw [hka]; decide), fun _ a => absurd (e2.symm.trans a) (by rw [hka]; decide), fun a => absurd (e2.symm.trans a) (by rw [hka]; decide), fun _ => ⟨(h.fin hka).1.upd hu hcb, (h.fin hka).2⟩, ?_, fun _ => by rw [e2]; exact hka⟩
  have := h.blk
  rw [hks, if_neg (by decide)] at this
  rw [upd_same, if_pos rfl]
  exact this.set i (g ka)
end
theorem lgc_set {lg : Nat → Value} {n p : Nat} {v : Value} (hp : p < n) : (flat (lgc lg) n).set p v = flat (lgc (fun i => if i = p then v else lg i)) n := by
  apply List.ext_getElem?
  intro k
  have hl : (flat (lgc lg) n).length = n := by rw [flat_len (lgc_len lg)]; omega
  have hl' : (flat (lgc (fun i => if i = p then v else lg i)) n).length = n := by rw [flat_len (lgc_len _)]; omega
  by_cases hk : k < n
  · have e1 := flat_get (el := lgc (fun i => if i = p then v else lg i)) (lgc_len _) (k := 0) (by decide) hk
    have e2 := flat_get (el := lgc lg) (lgc_len lg) (k := 0) (by decide) hk
    rw [Nat.mul_one, Nat.add_zero] at e1 e2
    rw [List.getElem?_set]
    by_cases hpk : p = k
    · subst hpk
      rw [if_pos rfl, if_pos (by rw [hl]; exact hp), e1]
      simp [lgc]
    · rw [if_neg hpk, e1, e2]
      simp only [lgc, if_neg (Ne.symm hpk)]
  · rw [List.getElem?_eq_none (by rw [List.length_set, hl]; omega), List.getElem?_eq_none (by rw [hl']; omega)]
theorem ofc_set {off : Nat → Bool} {n p : Nat} {b : Bool} (hp : p < n) : (flat (ofc off) n).set p (.bool b) = flat (ofc (fun i => if i = p then b else off i)) n := by
  apply List.ext_getElem?
  intro k
  have hl : (flat (ofc off) n).length = n := by rw [flat_len (ofc_len off)]; omega
  have hl' : (flat (ofc (fun i => if i = p then b else off i)) n).length = n := by rw [flat_len (ofc_len _)]; omega
  by_cases hk : k < n
  · have e1 := flat_get (el := ofc (fun i => if i = p then b else off i)) (ofc_len _) (k := 0) (by decide) hk
    have e2 := flat_get (el := ofc off) (ofc_len off) (k := 0) (by decide) hk
    rw [Nat.mul_one, Nat.add_zero] at e1 e2
    rw [List.getElem?_set]
    by_cases hpk : p = k
    · subst hpk
      rw [if_pos rfl, if_pos (by rw [hl]; exact hp), e1]
      simp [ofc]
    · rw [if_neg hpk, e1, e2]
      simp only [ofc, if_neg (Ne.symm hpk)]
  · rw [List.getElem?_eq_none (by rw [List.length_set, hl]; omega), List.getElem?_eq_none (by rw [hl']; omega)]
theorem ptc_at {lg : Nat → Value} {off : Nat → Bool} {n k : Nat} (hk : k < n * 2) : (flat (ptc lg off) n)[k]? = some (if k % 2 = 0 then lg (k / 2) else .bool (off (k / 2))) := by
  have e := Nat.div_add_mod k 2
  have h2 := flat_get (el := ptc lg off) (ptc_len lg off) (i := k / 2) (k := k % 2) (n := n) (Nat.mod_lt _ (by decide)) (by omega)
  rw [Nat.mul_comm, e] at h2
  rw [h2]
  rcases Nat.mod_two_eq_zero_or_one k with h | h
  · rw [h]; rfl
  · rw [h]; rfl
theorem ptc_set0 {lg : Nat → Value} {off : Nat → Bool} {n p : Nat} {v : Value} (_ : p < n) : (flat (ptc lg off) n).set (p * 2) v = flat (ptc (fun i => if i = p then v else lg i) off) n := by
  apply List.ext_getElem?
  intro k
  by_cases hk : k < n * 2
  · rw [List.getElem?_set, ptc_at hk, ptc_at hk]
    by_cases hpk : p * 2 = k
    · subst hpk
      rw [if_pos rfl, if_pos (by rw [flat_len (ptc_len lg off)]; omega), if_pos (by omega), if_pos (by omega)]
    · rw [if_neg hpk]
      by_cases h0 : k % 2 = 0
      · rw [if_pos h0, if_pos h0, if_neg (by omega)]
      · rw [if_neg h0, if_neg h0]
  · rw [List.getElem?_eq_none (by rw [List.length_set, flat_len (ptc_len lg off)]; omega), List.getElem?_eq_none (by rw [flat_len (ptc_len _ off)]; omega)]
theorem ptc_set1 {lg : Nat → Value} {off : Nat → Bool} {n p : Nat} {b : Bool} (_ : p < n) : (flat (ptc lg off) n).set (p * 2 + 1) (.bool b) = flat (ptc lg (fun i => if i = p then b else off i)) n := by
  apply List.ext_getElem?
  intro k
  by_cases hk : k < n * 2
  · rw [List.getElem?_set, ptc_at hk, ptc_at hk]
    by_cases hpk : p * 2 + 1 = k
    · subst hpk
      rw [if_pos rfl, if_pos (by rw [flat_len (ptc_len lg off)]; omega), if_neg (by omega), if_pos (by omega)]
    · rw [if_neg hpk]
      by_cases h0 : k % 2 = 0
      · rw [if_pos h0, if_pos h0]
      · rw [if_neg h0, if_neg h0, if_neg (by omega)]
  · rw [List.getElem?_eq_none (by rw [List.length_set, flat_len (ptc_len lg off)]; omega), List.getElem?_eq_none (by rw [flat_len (ptc_len lg _)]; omega)]
end Go.Proofs.Ytbckfoldjlgabaa
namespace Go.Proofs.Ytbckfoldjlgabaa
open Go.RowKit
open Fl (nan key canon)
theorem cell_upd {w w' : World} {X : Nat → Prop} {b : Nat} (h : Upd w w' X) (hb : b < w.heap.size) (hx : ¬ X b) (o : Nat) : w'.cell? ⟨b, o, none⟩ = w.cell? ⟨b, o, none⟩ := World.cell?_of_block (h.block b hb hx)
/-- a record more -/
def St.put (s : St) (p : Nat) (r : Rc) : St := ⟨s.n, fun i => if i = p then s.log p ++ [r] else s.log i, s.off⟩
/-- what Produce answers, what it leaves -/
def prodE (s : St) (p : Nat) (r : Rc) : Int := if 256 ≤ (s.log p).length then 61 else if kp r = true ∧ ky r ∉ kpre s s.n ∧ 64 ≤ (kpre s s.n).length then 62 else 0
def prodS (s : St) (p : Nat) (r : Rc) : St := if prodE s p r = 0 then s.put p r else s
theorem mem_put {s : St} {p : Nat} {r : Rc} (hp : p < s.n) {x : Int} : x ∈ kpre (s.put p r) s.n ↔ x ∈ kpre s s.n ∨ (kp r = true ∧ ky r = x) := by
  rw [mem_kpre, mem_kpre]
  constructor
  · rintro ⟨q, r', h1, h2, h3⟩
    by_cases hq : q = p
    · subst hq
      have h2' : r' ∈ s.log q ++ [r] := by simpa [St.put] using h2
      rcases List.mem_append.1 h2' with h | h
      · exact .inl ⟨q, r', h1, h, h3⟩
      · obtain rfl := List.mem_singleton.1 h
        exact .inr h3
    · exact .inl ⟨q, r', h1, by simpa [St.put, hq] using h2, h3⟩
  · rintro (⟨q, r', h1, h2, h3⟩ | h3)
    · refine ⟨q, r', h1, ?_, h3⟩
      by_cases hq : q = p
      · subst hq
        simp only [St.put, if_true]
        exact List.mem_append_left _ h2
      · simpa [St.put, hq] using h2
    · exact ⟨p, r, hp, by simp [St.put], h3⟩
theorem put_len {s : St} {p : Nat} {r : Rc} (hp : p < s.n) : (kpre (s.put p r) s.n).length = if kp r = true ∧ ky r ∉ kpre s s.n then (kpre s s.n).length + 1 else (kpre s s.n).length := by
  have n1 := (kpre_rises (s.put p r) s.n).nodup
  have n2 := (kpre_rises s s.n).nodup
  by_cases h : kp r = true ∧ ky r ∉ kpre s s.n
  · rw [if_pos h, ← wth_new h.2]
    have n3 := (wth_rises (k := ky r) (kpre_rises s s.n)).nodup
    have hm : ∀ x, x ∈ kpre (s.put p r) s.n ↔ x ∈ wth (kpre s s.n) (ky r) := fun x => by
      rw [mem_put hp, mem_wth]
      exact ⟨fun h' => h'.elim .inl (fun h' => .inr h'.2.symm), fun h' => h'.elim .inl (fun h' => .inr ⟨h.1, h'.symm⟩)⟩
    exact Nat.le_antisymm (nodup_len n1 (fun x hx => (hm x).1 hx)) (nodup_len n3 (fun x hx => (hm x).2 hx))
  · rw [if_neg h]
    have hm : ∀ x, x ∈ kpre (s.put p r) s.n ↔ x ∈ kpre s s.n := fun x => by
      rw [mem_put hp]
      refine ⟨fun h' => h'.elim id (fun h' => ?_), .inl⟩
      by_cases hk : ky r ∈ kpre s s.n
      · rw [← h'.2]; exact hk
      · exact absurd ⟨h'.1, hk⟩ h
    exact Nat.le_antisymm (nodup_len n1 (fun x hx => (hm x).1 hx)) (nodup_len n2 (fun x hx => (hm x).2 hx))
theorem put_ok' {s : St} (hs : s.ok) {p : Nat} {r : Rc} (he : prodE s p r = 0) : (s.put p r).ok := by
  refine ⟨hs.n1, hs.n4, fun i hi => ?_⟩
  by_cases hip : i = p
  · subst hip
    simp only [St.put, if_true, List.length_append, List.length_singleton]
    unfold prodE at he
    split at he
    · cases he
    · omega
  · simp only [St.put, if_neg hip]
    exact hs.le i hi
theorem put_64 {s : St} {p : Nat} {r : Rc} (hp : p < s.n) (h : (kpre s s.n).length ≤ 64) (he : prodE s p r = 0) : (kpre (s.put p r) s.n).length ≤ 64 := by
  rw [put_len hp]
  unfold prodE at he
  split at he
  · cases he
  · split at he
    · cases he
    · rename_i h2
      split
      · rename_i h3
        have : ¬ 64 ≤ (kpre s s.n).length := fun h4 => h2 ⟨h3.1, h3.2, h4⟩
        omega
      · exact h
theorem OwnU.shape {w : World} {base : Nat} {v : Value} {l : List Int} (h : OwnU w base v l) : ∃ a cap, v = .slice a l.length cap := by
  obtain ⟨n, p, rfl, _, ho, _⟩ := h
  rw [toL_len]
  rcases ho.2 with ⟨rfl, rfl⟩ | ⟨g, cap, cur, rfl, _⟩
  · exact ⟨none, 0, rfl⟩
  · exact ⟨_, cap, rfl⟩
/-- the logs' slices behind a record more of partition p -/
def Newer (w : World) (p : Nat) (lg lg' : Nat → Value) : Prop := ∀ i, lg' i = lg i ∨ (i = p ∧ ((lg' i).ownBlock = (lg i).ownBlock ∨ ∀ b, (lg' i).ownBlock = some b → w.heap.size ≤ b))
theorem Newer.refl (w : World) (p : Nat) (lg : Nat → Value) : Newer w p lg lg := fun _ => .inl rfl
/-- the document's source, with all that a record more wants -/
structure RSrcF (w : World) (base tb gb ob : Nat) (lv : Value) (lg : Nat → Value) (s : St) : Prop where
  src : RSrc w tb gb ob lv lg s
  lst : Lst w lv
  k64 : (kpre s s.n).length ≤ 64
  sep : ∀ i j b, i < s.n → j < s.n → i ≠ j → (lg i).ownBlock = some b → (lg j).ownBlock ≠ some b
  low : base ≤ tb ∧ base ≤ gb ∧ base ≤ ob
  lowl : ∀ i b, i < s.n → (lg i).ownBlock = some b → base ≤ b
section
variable {w w5 w6 : World} {base tb gb ob : Nat} {lv : Value} {lg : Nat → Value} {s : St} {p : Nat} {r : Rc} {V v' : Value}
theorem RSrcF.keep {w' : World} (h : RSrcF w base tb gb ob lv lg s) (hb : Below w.heap.size w w') : RSrcF w' base tb gb ob lv lg s :=
  ⟨h.src.keep hb, h.lst.keep hb, h.k64, h.sep, h.low, h.lowl⟩
theorem sep_put {n : Nat} {p : Nat} {lg : Nat → Value} {v' : Value} (hsep : ∀ i j b, i < n → j < n → i ≠ j → (lg i).ownBlock = some b → (lg j).ownBlock ≠ some b) (hlt : ∀ i b, i < n → (lg i).ownBlock = some b → b < w5.heap.size)
    (hv : v'.ownBlock = (lg p).ownBlock ∨ ∀ b, v'.ownBlock = some b → w5.heap.size ≤ b) (hp : p < n) (i j b : Nat) (hi : i < n) (hj : j < n) (hij : i ≠ j) (h : (if i = p then v' else lg i).ownBlock = some b) : (if j = p then v' else lg j).ownBlock ≠ some b := by
  by_cases h1 : i = p
  · subst h1
    rw [if_pos rfl] at h
    rw [if_neg (Ne.symm hij)]
    rcases hv with h2 | h2
    · rw [h2] at h
      exact hsep i j b hi hj hij h
    · intro h3
      have := h2 b h
      have := hlt j b hj h3
      omega
  · rw [if_neg h1] at h
    by_cases h2 : j = p
    · subst h2
      rw [if_pos rfl]
      rcases hv with h3 | h3
      · rw [h3]; exact hsep i j b hi hj hij h
      · intro h4
        have := h3 b h4
        have := hlt i b hi h
        omega
    · rw [if_neg h2]; exact hsep i j b hi hj hij h
theorem rsrc_put (h : RSrcF w base tb gb ob lv lg s) (hb : Below w.heap.size w w5) (hp : p < s.n) (_ : r.ok) (he : prodE s p r = 0) (hV : lg p = V) (f1 : OwnR w6 0 v' (s.log p ++ [r])) (f2 : v'.ownBlock = V.ownBlock ∨ ∀ b, v'.ownBlock = some b → w5.heap.size ≤ b)
    (b6 : Blk w6 gb ((flat (lgc lg) s.n).set p v') 22) (u6 : Upd w5 w6 (fun b => b = gb ∨ V.ownBlock = some b)) :
    RSrcF w6 base tb gb ob lv (fun i => if i = p then v' else lg i) (s.put p r) ∧ Upd w w6 (fun b => b = gb ∨ (lg p).ownBlock = some b) ∧ Newer w p lg (fun i => if i = p then v' else lg i) := by
  subst hV
  have h5 := h.keep hb
  have hkt : ∀ b, (b = gb ∨ (lg p).ownBlock = some b) → b ≠ tb ∧ b ≠ ob ∧ lv.ownBlock ≠ some b := by
    intro b hx
    rcases hx with rfl | hx
    · exact ⟨kind_ne h5.src.gs.kind h5.src.hd.kind (by decide), kind_ne h5.src.gs.kind h5.src.os.kind (by decide), fun hl => kind_ne h5.src.gs.kind (h5.lst.kind hl) (by decide) rfl⟩
    · have hk := (h5.src.rc p hp).kind hx
      exact ⟨kind_ne hk h5.src.hd.kind (by decide), kind_ne hk h5.src.os.kind (by decide), fun hl => kind_ne hk (h5.lst.kind hl) (by decide) rfl⟩
  rw [lgc_set hp] at b6
  refine ⟨⟨⟨put_ok' h.src.ok he, h5.src.hd.upd u6 (fun hx => (hkt _ hx).1 rfl), b6, h5.src.os.upd u6 (fun hx => (hkt _ hx).2.1 rfl), fun i hi => ?_⟩, h5.lst.upd u6 (fun b hl hx => (hkt b hx).2.2 hl), put_64 hp h.k64 he, ?_, h.low, fun i b hi hx => ?_⟩, ?_, fun i => ?_⟩
  · by_cases hip : i = p
    · subst hip
      simp only [St.put, if_true]
      exact f1
    · simp only [St.put, if_neg hip]
      refine (h5.src.rc i hi).upd u6 (fun b hbi hx => ?_)
      rcases hx with rfl | hx
      · exact kind_ne ((h5.src.rc i hi).kind hbi) h5.src.gs.kind (by decide) rfl
      · exact h.sep i p b hi hp hip hbi hx
  · exact sep_put h.sep (fun i b hi hx => ((h5.src.rc i hi).lt b hx).2) f2 hp
  · by_cases hip : i = p
    · subst hip
      rw [if_pos rfl] at hx
      rcases f2 with h1 | h1
      · rw [h1] at hx; exact h.lowl i b hi hx
      · have := h1 b hx
        have := h.low.1
        have := h5.src.hd.lt
        omega
    · rw [if_neg hip] at hx
      exact h.lowl i b hi hx
  · exact (Upd.of_below hb).trans u6 (fun b _ hx => hx)
  · by_cases hip : i = p
    · subst hip
      refine .inr ⟨rfl, ?_⟩
      dsimp only
      rw [if_pos rfl]
      rcases f2 with h1 | h1
      · exact .inl h1
      · exact .inr (fun b hx => Nat.le_trans hb.size (h1 b hx))
    · exact .inl (if_neg hip)

set_option maxRecDepth 100000 in
set_option maxHeartbeats 16000000 in
theorem rproduce_any (h : RSrcF w base tb gb ob lv lg s) (hp : p < s.n) (hok : r.ok) :
    Calls Try.prog 38 #[.pointer (some ⟨tb, 0, none⟩), .int .i64 p, .agg #[.int .u64 r.key, .float .f64 r.val]] w fun e w' => ∃ lg', e = .returned (.int .i64 (prodE s p r)) ∧ RSrcF w' base tb gb ob lv lg' (prodS s p r) ∧ Upd w w' (fun b => b = gb ∨ (lg p).ownBlock = some b) ∧ Newer w p lg lg' := by
  have HF := Lib.hid h
  have HOK := Lib.hid hok
  have C1 := Lib.hid (fun W (hW : Below w.heap.size w W) => rhas_in (h.src.keep hW) hp)
  have C2 := Lib.hid (fun W (hW : Below w.heap.size w W) => rkey_less (h.lst.keep hW) hok)
  have C3 := Lib.hid (fun W (hW : Below w.heap.size w W) => keys_any (h.src.keep hW) (h.lst.keep hW))
  obtain ⟨a, cap, hv⟩ := (h.src.rc p hp).shape
  have hle := h.src.ok.le p hp
  have hn4 := h.src.ok.n4
  have HLE := Lib.hid hle
  have z0 := h.src.h0
  have z2 := h.src.h2
  have x0 := h.src.c0 hp
  have y1 := h.src.hd.lt
  have y2 := h.src.gs.lt
  obtain ⟨N, hN⟩ : ∃ N, s.n = N := ⟨_, rfl⟩
  have HN := Lib.hid hN
  have hpN : (p : Int) < (N : Int) := by omega
  have hp4 : (p : Int) < 4 := by omega
  rw [hN] at z0
  obtain ⟨m, hm⟩ : ∃ m, (s.log p).length = m := ⟨_, rfl⟩
  rw [hm] at hv hle
  rw [hv] at x0
  have HV := Lib.hid hv
  have HM := Lib.hid hm
  have same := Lib.hid (fun W (hW : Below w.heap.size w W) (he : prodE s p r ≠ 0) => show RSrcF W base tb gb ob lv lg (prodS s p r) ∧ Upd w W (fun b => b = gb ∨ (lg p).ownBlock = some b) ∧ Newer w p lg lg from ⟨by unfold prodS; rw [if_neg he]; exact h.keep hW, .of_below hW, .refl _ _ _⟩)
  clear h hv hm hN hn4
  by_cases hfull : m = 256
  · subst hfull
    have HE : Hid (prodE s p r = 61) := Lib.hid (by unfold prodE; rw [if_pos (by rw [HM.out]; exact Nat.le_refl _)])
    go_enter Try.func38, Try.ntmps38
    go_wp2_with fail
    refine (C1.out _ (by repeat' (first | with_reducible exact Below.refl _ _ | with_reducible assumption | with_reducible refine bel_drew ?_ | with_reducible refine bel_alloc ?_ _ | with_reducible refine bel_set ?_ ?_ _ | with_reducible refine bel_call ?_ (by assumption) | (dsimp only; omega) | (simp; done) | (simp; omega)))).mono ?_
    rintro e w' ⟨rfl, rfl⟩
    go_wp2_with fail
    go_ret
    obtain ⟨h1, h2, h3⟩ := same.out _ (bel_alloc1 _ _) (by rw [HE.out]; decide)
    exact ⟨lg, by rw [HE.out]; rfl, h1, h2, h3⟩
  · have hm2 : ((m : Int) == 256) = false := by simp; omega
    have hm3 : m ≤ 255 := by omega
    clear hfull
    cases hkp : kp r with
    | false =>
      rw [hkp] at C2
      go_enter Try.func38, Try.ntmps38
      go_wp2_with fail
      refine (C1.out _ (by repeat' (first | with_reducible exact Below.refl _ _ | with_reducible assumption | with_reducible refine bel_drew ?_ | with_reducible refine bel_alloc ?_ _ | with_reducible refine bel_set ?_ ?_ _ | with_reducible refine bel_call ?_ (by assumption) | (dsimp only; omega) | (simp; done) | (simp; omega)))).mono ?_
      rintro e w' ⟨rfl, rfl⟩
      go_wp2_with fail
      refine wp_region_below (by kernel_rfl) (by kernel_rfl) ?_
      iterate 11 (first | (refine lex_skip (by rfl) (fun _ _ _ _ h => h) ?_; simp only [Act.put, List.setIfInBounds_toArray, List.set_cons_zero, List.set_cons_succ]) | (refine lex_op (by rfl) ?_; apply Exists.intro; refine ⟨?_, ?_⟩; ((intro _ _ _ _ hT; obtain ⟨hc, hf⟩ := bcell hT; go_simp; first | exact rfl | exact call_below hT (C2.out _ ((bel_alloc1 _ _).trans (hT.mono (by simp)))))); simp only [Act.put, List.setIfInBounds_toArray, List.set_cons_zero, List.set_cons_succ]))
      refine lex_nil ?_
      intro w5 bel5
      have HP5 : Hid (Below w.heap.size w w5) := Lib.hid ((bel_alloc1 _ _).trans (bel5.mono (by simp)))
      have HB5 : Hid (Blk w5 w.heap.size [.int .u64 r.key, .float .f64 r.val] 66) := Lib.hid (Blk.below (Blk.new _ _ rfl) bel5)
      clear bel5 z0 z2 x0 y1 y2 C1 C2 C3 same
      have HE : Hid (prodE s p r = 0) := Lib.hid (by unfold prodE; rw [if_neg (by rw [HM.out]; omega), if_neg (by rw [hkp]; rintro ⟨h, _⟩; cases h)])
      have HS' : Hid (prodS s p r = s.put p r) := Lib.hid (by unfold prodS; rw [if_pos HE.out])
      obtain ⟨ZS, hZS⟩ : ∃ ZS, flat (lgc lg) s.n = ZS := ⟨_, rfl⟩
      have hs5 := HF.out.keep HP5.out
      have hblk := hs5.src.gs
      have HAT : Hid (ZS[p]? = some (.slice a m cap)) := Lib.hid (by rw [← hZS, ← HV.out]; have := flat_get (el := lgc lg) (lgc_len lg) (k := 0) (n := s.n) (by decide) hp; rw [Nat.mul_one, Nat.add_zero] at this; exact this)
      have HFZ : Hid (∀ v14 w6 (f1 : OwnR w6 0 v14 (s.log p ++ [r])) (f2 : v14.ownBlock = (Value.slice a m cap).ownBlock ∨ ∀ b, v14.ownBlock = some b → w5.heap.size ≤ b) (b6 : Blk w6 gb (ZS.set p v14) 22) (u6 : Upd w5 w6 (fun b => b = gb ∨ (Value.slice a m cap).ownBlock = some b)), RSrcF w6 base tb gb ob lv (fun i => if i = p then v14 else lg i) (s.put p r) ∧ Upd w w6 (fun b => b = gb ∨ (lg p).ownBlock = some b) ∧ Newer w p lg (fun i => if i = p then v14 else lg i)) := Lib.hid (fun v14 w6 f1 f2 b6 u6 => rsrc_put HF.out HP5.out hp HOK.out HE.out HV.out f1 f2 (hZS ▸ b6) u6)
      rw [hZS] at hblk
      have HZ := Lib.hid hblk
      have HOL : Hid (OwnR w5 0 (.slice a m cap) (s.log p)) := Lib.hid (HV.out ▸ hs5.src.rc p hp)
      have z0 : w5.cell? ⟨tb, 0, none⟩ = some (.slice (some ⟨gb, 0, none⟩) N N) := by rw [hs5.src.h0, HN.out]
      have n0 := hs5.src.hd.lt
      have n5 := hs5.src.gs.lt
      have nx0 : ¬ (tb = gb ∨ (Value.slice a m cap).ownBlock = some tb) := by
        rintro (h | h)
        · exact kind_ne hs5.src.hd.kind hs5.src.gs.kind (by decide) h
        · exact kind_ne (HOL.out.kind h) hs5.src.hd.kind (by decide) rfl
      have HNB : Hid ((Value.slice a m cap).ownBlock ≠ some gb) := Lib.hid (fun h => kind_ne (HOL.out.kind h) hs5.src.gs.kind (by decide) rfl)
      have n1 : w.heap.size < w5.heap.size := HB5.out.lt
      have nx1 : ¬ (w.heap.size = gb ∨ (Value.slice a m cap).ownBlock = some w.heap.size) := by
        rintro (h | h)
        · have := HF.out.src.gs.lt; omega
        · have := ((HV.out ▸ HF.out.src.rc p hp : OwnR w 0 (.slice a m cap) (s.log p)).lt _ h).2; omega
      have y0 : w5.cell? ⟨w.heap.size, 0, none⟩ = some (.int .u64 r.key) := HB5.out.cell 0
      have y1 : w5.cell? ⟨w.heap.size, 1, none⟩ = some (.float .f64 r.val) := HB5.out.cell 1
      clear hs5 hblk hZS HF HB5 HP5
      go_wp2_with fail
      refine RV.wp_region_ghost (PrC w5 (.slice a m cap) (s.log p) r gb p ZS 22 13 14 16) (by kernel_rfl) (by kernel_rfl) PrC.loc (.begin _ (by decide) (by decide) (by decide) HOL.out HZ.out) ?_
      refine RV.lexg_val (fun _ => by rfl) ?_; apply Exists.intro; refine ⟨?_, ?_⟩; ((intro g L w' hU hT; have hT' := hT.step (j := 0) (by decide); clear hT hU; go_simp; exact rfl)); simp only [Act.put, List.setIfInBounds_toArray, List.set_cons_zero, List.set_cons_succ]
      refine RV.lexg_val (fun _ => by rfl) ?_; apply Exists.intro; refine ⟨?_, ?_⟩; ((intro g L w' hU hT; have hT' := hT.step (j := 1) (by decide); clear hT hU; go_simp; exact rfl)); simp only [Act.put, List.setIfInBounds_toArray, List.set_cons_zero, List.set_cons_succ]
      refine RV.lexg_val (fun _ => by rfl) ?_; apply Exists.intro; refine ⟨?_, ?_⟩; ((intro g L w' hU hT; have hT' := hT.step (j := 2) (by decide); clear hT hU; go_simp; exact rfl)); simp only [Act.put, List.setIfInBounds_toArray, List.set_cons_zero, List.set_cons_succ]
      refine RV.lexg_val (fun _ => by rfl) ?_; apply Exists.intro; refine ⟨?_, ?_⟩; ((intro g L w' hU hT; have hT' := hT.step (j := 3) (by decide); have e0 := (cell_upd hT.upd n0 nx0 0).trans z0; clear hT hU; go_simp; exact rfl)); simp only [Act.put, List.setIfInBounds_toArray, List.set_cons_zero, List.set_cons_succ]
      refine RV.lexg_val (fun _ => by rfl) ?_; apply Exists.intro; refine ⟨?_, ?_⟩; ((intro g L w' hU hT; have hT' := hT.step (j := 4) (by decide); clear hT hU; go_simp; exact rfl)); simp only [Act.put, List.setIfInBounds_toArray, List.set_cons_zero, List.set_cons_succ]
      refine RV.lexg_val (fun _ => by rfl) ?_; apply Exists.intro; refine ⟨?_, ?_⟩; ((intro g L w' hU hT; have hT' := hT.step (j := 5) (by decide); clear hT hU; go_simp; exact rfl)); simp only [Act.put, List.setIfInBounds_toArray, List.set_cons_zero, List.set_cons_succ]
      refine RV.lexg_val (fun _ => by rfl) ?_; apply Exists.intro; refine ⟨?_, ?_⟩; ((intro g L w' hU hT; have hT' := hT.step (j := 6) (by decide); clear hT hU; go_simp; exact rfl)); simp only [Act.put, List.setIfInBounds_toArray, List.set_cons_zero, List.set_cons_succ]
      refine RV.lexg_val (fun _ => by rfl) ?_; apply Exists.intro; refine ⟨?_, ?_⟩; ((intro g L w' hU hT; have hT' := hT.step (j := 7) (by decide); clear hT hU; go_simp; exact rfl)); simp only [Act.put, List.setIfInBounds_toArray, List.set_cons_zero, List.set_cons_succ]
      refine RV.lexg_val (fun _ => by rfl) ?_; apply Exists.intro; refine ⟨?_, ?_⟩; ((intro g L w' hU hT; have hT' := hT.step (j := 8) (by decide); have e0 := (cell_upd hT.upd n0 nx0 0).trans z0; clear hT hU; go_simp; exact rfl)); simp only [Act.put, List.setIfInBounds_toArray, List.set_cons_zero, List.set_cons_succ]
      refine RV.lexg_val (fun _ => by rfl) ?_; apply Exists.intro; refine ⟨?_, ?_⟩; ((intro g L w' hU hT; have hT' := hT.step (j := 9) (by decide); clear hT hU; go_simp; exact rfl)); simp only [Act.put, List.setIfInBounds_toArray, List.set_cons_zero, List.set_cons_succ]
      refine RV.lexg_val (fun _ => by rfl) ?_; apply Exists.intro; refine ⟨?_, ?_⟩; ((intro g L w' hU hT; have hT' := hT.step (j := 10) (by decide); clear hT hU; go_simp; exact rfl)); simp only [Act.put, List.setIfInBounds_toArray, List.set_cons_zero, List.set_cons_succ]
      refine RV.lexg_val (fun _ => by rfl) ?_; apply Exists.intro; refine ⟨?_, ?_⟩; ((intro g L w' hU hT; have hT' := hT.step (j := 11) (by decide); have h14 := hU.closed.no (j := 14) (i := 11) rfl (by kernel_rfl) hU.not; have h16 := hU.closed.no (j := 16) (i := 14) rfl (by kernel_rfl) h14; have hB := hT.blk; rw [h16, if_neg (by decide)] at hB; have e1 : w'.cell? ⟨gb, p, none⟩ = some (.slice a m cap) := (hB.cell p).trans HAT.out; clear hB h14 h16; clear hT hU; go_simp; exact rfl)); simp only [Act.put, List.setIfInBounds_toArray, List.set_cons_zero, List.set_cons_succ]
      refine RV.lexg_val (fun _ => by rfl) ?_; apply Exists.intro; refine ⟨?_, ?_⟩; ((intro g L w' hU hT; have hT' := hT.step (j := 12) (by decide); have e1 := (cell_upd hT.upd n1 nx1 0).trans y0; have e2 := (cell_upd hT.upd n1 nx1 1).trans y1; clear hT hU; go_simp; exact rfl)); simp only [Act.put, List.setIfInBounds_toArray, List.set_cons_zero, List.set_cons_succ]
      refine RV.lexg_new (fun _ => by rfl) ?_ ?_
      · intro g L w' hU hT
        have h14 := hU.closed.no (j := 14) (i := 13) rfl (by kernel_rfl) hU.not
        have h16 := hU.closed.no (j := 16) (i := 14) rfl (by kernel_rfl) h14
        refine lx_ok (u := .slice (some ⟨w'.heap.size, 0, none⟩) 1 1) (w' := w'.alloc (.cells #[.int .u64 r.key, .float .f64 r.val] 66)) ?_ (hT.build (by decide) h14 h16 HOK.out rfl)
        clear hT hU
        go_simp
      simp only [Act.put, List.setIfInBounds_toArray, List.set_cons_zero, List.set_cons_succ]
      refine RV.lexg_new (fun _ => by rfl) ?_ ?_
      · intro g L w' hU hT
        have h13 : L 13 = true := hU.yes rfl (by kernel_rfl)
        have h16 := hU.closed.no (j := 16) (i := 14) rfl (by kernel_rfl) hU.not
        obtain ⟨u, w'', h1, h2, h3, h4⟩ := run_append_recs (hT.own hU.not) (hT.bs h13 hU.not) (Nat.zero_le _) (by have := HLE.out; rw [List.length_singleton]; omega) 22 rfl
        exact lx_append rfl rfl rfl h1 (hT.append (by decide) hU.not h16 h2 h3 h4 HNB.out)
      simp only [Act.put, List.setIfInBounds_toArray, List.set_cons_zero, List.set_cons_succ]
      refine RV.lexg_val (fun _ => by rfl) ?_; apply Exists.intro; refine ⟨?_, ?_⟩; ((intro g L w' hU hT; have hT' := hT.step (j := 15) (by decide); clear hT hU; go_simp; exact rfl)); simp only [Act.put, List.setIfInBounds_toArray, List.set_cons_zero, List.set_cons_succ]
      refine RV.lexg_op (fun _ => by rfl) ?_
      refine ⟨fun _ => undef, ?_, RV.known_const _ _, ?_⟩
      · intro g L w' hU hT
        have h14 : L 14 = true := hU.yes rfl (by kernel_rfl)
        have hf := hT.fin h14
        have hT' := hT.store (by decide) h14 hU.not (fun b hb => kind_ne (hf.1.kind hb) hT.blk.kind (by decide))
        have hB := hT.blk
        rw [hU.not, if_neg (by decide)] at hB
        have f0 := hB.free p
        have c0 : w'.cell? ⟨gb, p, none⟩ = some (.slice a m cap) := (hB.cell p).trans HAT.out
        obtain ⟨a', cap', hsh⟩ := hf.1.shape
        generalize (s.log p ++ [r]).length = k14 at hsh
        rw [hsh] at hT'
        clear hT hU hf hB h14
        go_simp
      simp only [Act.put]
      refine RV.lexg_nil ?_
      intro g w6 hT
      obtain ⟨f1, f2⟩ := hT.fin rfl
      have u6 := hT.upd
      have b6 := hT.blk
      rw [if_pos rfl] at b6
      clear hT
      dsimp only
      generalize g 14 = v14 at *
      have HFIN := Lib.hid (HFZ.out _ _ f1 f2 b6 u6)
      clear f1 f2 u6 b6
      go_wp2_with fail
      go_ret
      obtain ⟨h1, h2, h3⟩ := HFIN.out
      exact ⟨_, by rw [HE.out]; rfl, by rw [HS'.out]; exact h1, h2, h3⟩
    | true =>
      rw [hkp] at C2
      have hky := Lib.hid (ky_ok HOK.out)
      have hk64 := HF.out.k64
      have hK50 : Hid ((kpre s s.n).length ≤ 50000) := Lib.hid (by omega)
      have HRI := Lib.hid (kpre_rises s s.n)
      have HKN : Hid (ky r ∉ kpre s s.n → 64 ≤ (kpre s s.n).length → prodE s p r = 62) := Lib.hid (fun h1 h2 => by unfold prodE; rw [if_neg (by rw [HM.out]; omega), if_pos ⟨hkp, h1, h2⟩])
      have HKY : Hid (ky r ∈ kpre s s.n ∨ (kpre s s.n).length < 64 → prodE s p r = 0) := Lib.hid (fun h => by
        unfold prodE
        rw [if_neg (by rw [HM.out]; omega), if_neg]
        rintro ⟨_, h1, h2⟩
        rcases h with h | h
        · exact h1 h
        · omega)
      clear hkp
      obtain ⟨K, hK⟩ : ∃ K, kpre s s.n = K := ⟨_, rfl⟩
      obtain ⟨kk, hkk⟩ : ∃ kk, ky r = kk := ⟨_, rfl⟩
      rw [hK, hkk] at HKN HKY
      rw [hkk] at C2 hky
      rw [hK] at C3 hk64 hK50 HRI
      clear hK hkk
      by_cases h64 : K.length = 64
      · by_cases hin : kk ∈ K
        · have hPE := HKY.out (.inl hin)
          have HPE := Lib.hid hPE
          have hwl : (wth K kk).length = 64 := by rw [wth_known HRI.out hin, h64]
          have HWL := Lib.hid hwl
          have H64 := Lib.hid h64
          clear hPE hwl h64 hin HKN HKY hk64
          go_enter Try.func38, Try.ntmps38
          go_wp2_with fail
          refine (C1.out _ (by repeat' (first | with_reducible exact Below.refl _ _ | with_reducible assumption | with_reducible refine bel_drew ?_ | with_reducible refine bel_alloc ?_ _ | with_reducible refine bel_set ?_ ?_ _ | with_reducible refine bel_call ?_ (by assumption) | (dsimp only; omega) | (simp; done) | (simp; omega)))).mono ?_
          rintro e w' ⟨rfl, rfl⟩
          go_wp2_with fail
          refine wp_region_below (by kernel_rfl) (by kernel_rfl) ?_
          iterate 11 (first | (refine lex_skip (by rfl) (fun _ _ _ _ h => h) ?_; simp only [Act.put, List.setIfInBounds_toArray, List.set_cons_zero, List.set_cons_succ]) | (refine lex_op (by rfl) ?_; apply Exists.intro; refine ⟨?_, ?_⟩; ((intro _ _ _ _ hT; obtain ⟨hc, hf⟩ := bcell hT; go_simp; first | exact rfl | exact call_below hT (C2.out _ ((bel_alloc1 _ _).trans (hT.mono (by simp)))))); simp only [Act.put, List.setIfInBounds_toArray, List.set_cons_zero, List.set_cons_succ]))
          refine lex_nil ?_
          intro w3 bel5
          have p3 : Below w.heap.size w w3 := (bel_alloc1 _ _).trans (bel5.mono (by simp))
          have B3 : Blk w3 w.heap.size [.int .u64 r.key, .float .f64 r.val] 66 := Blk.below (Blk.new _ _ rfl) bel5
          clear bel5
          go_wp2_with fail
          refine (C3.out _ p3).mono ?_
          rintro e wk ⟨v3, rfl, own3, b3⟩
          have pk : Below w.heap.size w wk := p3.trans (b3.mono p3.size)
          have Bk := B3.below b3
          have n35 := b3.size
          have hp3 := p3.size
          have n3 := B3.lt
          obtain ⟨a3, cap3, h3⟩ := own3.shape
          rw [H64.out] at h3
          subst h3
          have OU := Lib.hid own3
          clear own3 p3 B3 b3
          go_wp2_with fail
          refine (with_any OU.out n35 hky.out hK50.out).mono ?_
          rintro e w5 ⟨v4, rfl, own4, b4⟩
          have p5 : Below w.heap.size w w5 := pk.trans (b4.mono hp3)
          have B5 := Bk.keep b4 n3
          obtain ⟨a4, cap4, h4⟩ := own4.shape
          rw [HWL.out] at h4
          subst h4
          clear own4 b4 pk Bk OU n35 hp3 n3
          have HP5 := Lib.hid p5
          have HB5 := Lib.hid B5
          clear p5 B5 z0 z2 x0 y1 y2 C1 C2 C3 same hky hK50 HRI
          have HE : Hid (prodE s p r = 0) := Lib.hid HPE.out
          have HS' : Hid (prodS s p r = s.put p r) := Lib.hid (by unfold prodS; rw [if_pos HE.out])
          obtain ⟨ZS, hZS⟩ : ∃ ZS, flat (lgc lg) s.n = ZS := ⟨_, rfl⟩
          have hs5 := HF.out.keep HP5.out
          have hblk := hs5.src.gs
          have HAT : Hid (ZS[p]? = some (.slice a m cap)) := Lib.hid (by rw [← hZS, ← HV.out]; have := flat_get (el := lgc lg) (lgc_len lg) (k := 0) (n := s.n) (by decide) hp; rw [Nat.mul_one, Nat.add_zero] at this; exact this)
          have HFZ : Hid (∀ v14 w6 (f1 : OwnR w6 0 v14 (s.log p ++ [r])) (f2 : v14.ownBlock = (Value.slice a m cap).ownBlock ∨ ∀ b, v14.ownBlock = some b → w5.heap.size ≤ b) (b6 : Blk w6 gb (ZS.set p v14) 22) (u6 : Upd w5 w6 (fun b => b = gb ∨ (Value.slice a m cap).ownBlock = some b)), RSrcF w6 base tb gb ob lv (fun i => if i = p then v14 else lg i) (s.put p r) ∧ Upd w w6 (fun b => b = gb ∨ (lg p).ownBlock = some b) ∧ Newer w p lg (fun i => if i = p then v14 else lg i)) := Lib.hid (fun v14 w6 f1 f2 b6 u6 => rsrc_put HF.out HP5.out hp HOK.out HE.out HV.out f1 f2 (hZS ▸ b6) u6)
          rw [hZS] at hblk
          have HZ := Lib.hid hblk
          have HOL : Hid (OwnR w5 0 (.slice a m cap) (s.log p)) := Lib.hid (HV.out ▸ hs5.src.rc p hp)
          have z0 : w5.cell? ⟨tb, 0, none⟩ = some (.slice (some ⟨gb, 0, none⟩) N N) := by rw [hs5.src.h0, HN.out]
          have n0 := hs5.src.hd.lt
          have n5 := hs5.src.gs.lt
          have nx0 : ¬ (tb = gb ∨ (Value.slice a m cap).ownBlock = some tb) := by
            rintro (h | h)
            · exact kind_ne hs5.src.hd.kind hs5.src.gs.kind (by decide) h
            · exact kind_ne (HOL.out.kind h) hs5.src.hd.kind (by decide) rfl
          have HNB : Hid ((Value.slice a m cap).ownBlock ≠ some gb) := Lib.hid (fun h => kind_ne (HOL.out.kind h) hs5.src.gs.kind (by decide) rfl)
          have n1 : w.heap.size < w5.heap.size := HB5.out.lt
          have nx1 : ¬ (w.heap.size = gb ∨ (Value.slice a m cap).ownBlock = some w.heap.size) := by
            rintro (h | h)
            · have := HF.out.src.gs.lt; omega
            · have := ((HV.out ▸ HF.out.src.rc p hp : OwnR w 0 (.slice a m cap) (s.log p)).lt _ h).2; omega
          have y0 : w5.cell? ⟨w.heap.size, 0, none⟩ = some (.int .u64 r.key) := HB5.out.cell 0
          have y1 : w5.cell? ⟨w.heap.size, 1, none⟩ = some (.float .f64 r.val) := HB5.out.cell 1
          clear hs5 hblk hZS HF HB5 HP5
          go_wp2_with fail
          refine RV.wp_region_ghost (PrC w5 (.slice a m cap) (s.log p) r gb p ZS 22 13 14 16) (by kernel_rfl) (by kernel_rfl) PrC.loc (.begin _ (by decide) (by decide) (by decide) HOL.out HZ.out) ?_
          refine RV.lexg_val (fun _ => by rfl) ?_; apply Exists.intro; refine ⟨?_, ?_⟩; ((intro g L w' hU hT; have hT' := hT.step (j := 0) (by decide); clear hT hU; go_simp; exact rfl)); simp only [Act.put, List.setIfInBounds_toArray, List.set_cons_zero, List.set_cons_succ]
          refine RV.lexg_val (fun _ => by rfl) ?_; apply Exists.intro; refine ⟨?_, ?_⟩; ((intro g L w' hU hT; have hT' := hT.step (j := 1) (by decide); clear hT hU; go_simp; exact rfl)); simp only [Act.put, List.setIfInBounds_toArray, List.set_cons_zero, List.set_cons_succ]
          refine RV.lexg_val (fun _ => by rfl) ?_; apply Exists.intro; refine ⟨?_, ?_⟩; ((intro g L w' hU hT; have hT' := hT.step (j := 2) (by decide); clear hT hU; go_simp; exact rfl)); simp only [Act.put, List.setIfInBounds_toArray, List.set_cons_zero, List.set_cons_succ]
          refine RV.lexg_val (fun _ => by rfl) ?_; apply Exists.intro; refine ⟨?_, ?_⟩; ((intro g L w' hU hT; have hT' := hT.step (j := 3) (by decide); have e0 := (cell_upd hT.upd n0 nx0 0).trans z0; clear hT hU; go_simp; exact rfl)); simp only [Act.put, List.setIfInBounds_toArray, List.set_cons_zero, List.set_cons_succ]
          refine RV.lexg_val (fun _ => by rfl) ?_; apply Exists.intro; refine ⟨?_, ?_⟩; ((intro g L w' hU hT; have hT' := hT.step (j := 4) (by decide); clear hT hU; go_simp; exact rfl)); simp only [Act.put, List.setIfInBounds_toArray, List.set_cons_zero, List.set_cons_succ]
          refine RV.lexg_val (fun _ => by rfl) ?_; apply Exists.intro; refine ⟨?_, ?_⟩; ((intro g L w' hU hT; have hT' := hT.step (j := 5) (by decide); clear hT hU; go_simp; exact rfl)); simp only [Act.put, List.setIfInBounds_toArray, List.set_cons_zero, List.set_cons_succ]
          refine RV.lexg_val (fun _ => by rfl) ?_; apply Exists.intro; refine ⟨?_, ?_⟩; ((intro g L w' hU hT; have hT' := hT.step (j := 6) (by decide); clear hT hU; go_simp; exact rfl)); simp only [Act.put, List.setIfInBounds_toArray, List.set_cons_zero, List.set_cons_succ]
          refine RV.lexg_val (fun _ => by rfl) ?_; apply Exists.intro; refine ⟨?_, ?_⟩; ((intro g L w' hU hT; have hT' := hT.step (j := 7) (by decide); clear hT hU; go_simp; exact rfl)); simp only [Act.put, List.setIfInBounds_toArray, List.set_cons_zero, List.set_cons_succ]
          refine RV.lexg_val (fun _ => by rfl) ?_; apply Exists.intro; refine ⟨?_, ?_⟩; ((intro g L w' hU hT; have hT' := hT.step (j := 8) (by decide); have e0 := (cell_upd hT.upd n0 nx0 0).trans z0; clear hT hU; go_simp; exact rfl)); simp only [Act.put, List.setIfInBounds_toArray, List.set_cons_zero, List.set_cons_succ]
          refine RV.lexg_val (fun _ => by rfl) ?_; apply Exists.intro; refine ⟨?_, ?_⟩; ((intro g L w' hU hT; have hT' := hT.step (j := 9) (by decide); clear hT hU; go_simp; exact rfl)); simp only [Act.put, List.setIfInBounds_toArray, List.set_cons_zero, List.set_cons_succ]
          refine RV.lexg_val (fun _ => by rfl) ?_; apply Exists.intro; refine ⟨?_, ?_⟩; ((intro g L w' hU hT; have hT' := hT.step (j := 10) (by decide); clear hT hU; go_simp; exact rfl)); simp only [Act.put, List.setIfInBounds_toArray, List.set_cons_zero, List.set_cons_succ]
          refine RV.lexg_val (fun _ => by rfl) ?_; apply Exists.intro; refine ⟨?_, ?_⟩; ((intro g L w' hU hT; have hT' := hT.step (j := 11) (by decide); have h14 := hU.closed.no (j := 14) (i := 11) rfl (by kernel_rfl) hU.not; have h16 := hU.closed.no (j := 16) (i := 14) rfl (by kernel_rfl) h14; have hB := hT.blk; rw [h16, if_neg (by decide)] at hB; have e1 : w'.cell? ⟨gb, p, none⟩ = some (.slice a m cap) := (hB.cell p).trans HAT.out; clear hB h14 h16; clear hT hU; go_simp; exact rfl)); simp only [Act.put, List.setIfInBounds_toArray, List.set_cons_zero, List.set_cons_succ]
          refine RV.lexg_val (fun _ => by rfl) ?_; apply Exists.intro; refine ⟨?_, ?_⟩; ((intro g L w' hU hT; have hT' := hT.step (j := 12) (by decide); have e1 := (cell_upd hT.upd n1 nx1 0).trans y0; have e2 := (cell_upd hT.upd n1 nx1 1).trans y1; clear hT hU; go_simp; exact rfl)); simp only [Act.put, List.setIfInBounds_toArray, List.set_cons_zero, List.set_cons_succ]
          refine RV.lexg_new (fun _ => by rfl) ?_ ?_
          · intro g L w' hU hT
            have h14 := hU.closed.no (j := 14) (i := 13) rfl (by kernel_rfl) hU.not
            have h16 := hU.closed.no (j := 16) (i := 14) rfl (by kernel_rfl) h14
            refine lx_ok (u := .slice (some ⟨w'.heap.size, 0, none⟩) 1 1) (w' := w'.alloc (.cells #[.int .u64 r.key, .float .f64 r.val] 66)) ?_ (hT.build (by decide) h14 h16 HOK.out rfl)
            clear hT hU
            go_simp
          simp only [Act.put, List.setIfInBounds_toArray, List.set_cons_zero, List.set_cons_succ]
          refine RV.lexg_new (fun _ => by rfl) ?_ ?_
          · intro g L w' hU hT
            have h13 : L 13 = true := hU.yes rfl (by kernel_rfl)
            have h16 := hU.closed.no (j := 16) (i := 14) rfl (by kernel_rfl) hU.not
            obtain ⟨u, w'', h1, h2, h3, h4⟩ := run_append_recs (hT.own hU.not) (hT.bs h13 hU.not) (Nat.zero_le _) (by have := HLE.out; rw [List.length_singleton]; omega) 22 rfl
            exact lx_append rfl rfl rfl h1 (hT.append (by decide) hU.not h16 h2 h3 h4 HNB.out)
          simp only [Act.put, List.setIfInBounds_toArray, List.set_cons_zero, List.set_cons_succ]
          refine RV.lexg_val (fun _ => by rfl) ?_; apply Exists.intro; refine ⟨?_, ?_⟩; ((intro g L w' hU hT; have hT' := hT.step (j := 15) (by decide); clear hT hU; go_simp; exact rfl)); simp only [Act.put, List.setIfInBounds_toArray, List.set_cons_zero, List.set_cons_succ]
          refine RV.lexg_op (fun _ => by rfl) ?_
          refine ⟨fun _ => undef, ?_, RV.known_const _ _, ?_⟩
          · intro g L w' hU hT
            have h14 : L 14 = true := hU.yes rfl (by kernel_rfl)
            have hf := hT.fin h14
            have hT' := hT.store (by decide) h14 hU.not (fun b hb => kind_ne (hf.1.kind hb) hT.blk.kind (by decide))
            have hB := hT.blk
            rw [hU.not, if_neg (by decide)] at hB
            have f0 := hB.free p
            have c0 : w'.cell? ⟨gb, p, none⟩ = some (.slice a m cap) := (hB.cell p).trans HAT.out
            obtain ⟨a', cap', hsh⟩ := hf.1.shape
            generalize (s.log p ++ [r]).length = k14 at hsh
            rw [hsh] at hT'
            clear hT hU hf hB h14
            go_simp
          simp only [Act.put]
          refine RV.lexg_nil ?_
          intro g w6 hT
          obtain ⟨f1, f2⟩ := hT.fin rfl
          have u6 := hT.upd
          have b6 := hT.blk
          rw [if_pos rfl] at b6
          clear hT
          dsimp only
          generalize g 14 = v14 at *
          have HFIN := Lib.hid (HFZ.out _ _ f1 f2 b6 u6)
          clear f1 f2 u6 b6
          go_wp2_with fail
          go_ret
          obtain ⟨h1, h2, h3⟩ := HFIN.out
          exact ⟨_, by rw [HE.out]; rfl, by rw [HS'.out]; exact h1, h2, h3⟩
        · have hPE := HKN.out hin (by omega)
          have HE := Lib.hid hPE
          have hwl : (wth K kk).length = 65 := by rw [wth_new hin, h64]
          have HWL := Lib.hid hwl
          have H64 := Lib.hid h64
          clear hPE hwl h64 hin HKN HKY hk64
          go_enter Try.func38, Try.ntmps38
          go_wp2_with fail
          refine (C1.out _ (by repeat' (first | with_reducible exact Below.refl _ _ | with_reducible assumption | with_reducible refine bel_drew ?_ | with_reducible refine bel_alloc ?_ _ | with_reducible refine bel_set ?_ ?_ _ | with_reducible refine bel_call ?_ (by assumption) | (dsimp only; omega) | (simp; done) | (simp; omega)))).mono ?_
          rintro e w' ⟨rfl, rfl⟩
          go_wp2_with fail
          refine wp_region_below (by kernel_rfl) (by kernel_rfl) ?_
          iterate 11 (first | (refine lex_skip (by rfl) (fun _ _ _ _ h => h) ?_; simp only [Act.put, List.setIfInBounds_toArray, List.set_cons_zero, List.set_cons_succ]) | (refine lex_op (by rfl) ?_; apply Exists.intro; refine ⟨?_, ?_⟩; ((intro _ _ _ _ hT; obtain ⟨hc, hf⟩ := bcell hT; go_simp; first | exact rfl | exact call_below hT (C2.out _ ((bel_alloc1 _ _).trans (hT.mono (by simp)))))); simp only [Act.put, List.setIfInBounds_toArray, List.set_cons_zero, List.set_cons_succ]))
          refine lex_nil ?_
          intro w3 bel5
          have p3 : Below w.heap.size w w3 := (bel_alloc1 _ _).trans (bel5.mono (by simp))
          have B3 : Blk w3 w.heap.size [.int .u64 r.key, .float .f64 r.val] 66 := Blk.below (Blk.new _ _ rfl) bel5
          clear bel5
          go_wp2_with fail
          refine (C3.out _ p3).mono ?_
          rintro e wk ⟨v3, rfl, own3, b3⟩
          have pk : Below w.heap.size w wk := p3.trans (b3.mono p3.size)
          have Bk := B3.below b3
          have n35 := b3.size
          have hp3 := p3.size
          have n3 := B3.lt
          obtain ⟨a3, cap3, h3⟩ := own3.shape
          rw [H64.out] at h3
          subst h3
          have OU := Lib.hid own3
          clear own3 p3 B3 b3
          go_wp2_with fail
          refine (with_any OU.out n35 hky.out hK50.out).mono ?_
          rintro e w5 ⟨v4, rfl, own4, b4⟩
          have p5 : Below w.heap.size w w5 := pk.trans (b4.mono hp3)
          have B5 := Bk.keep b4 n3
          obtain ⟨a4, cap4, h4⟩ := own4.shape
          rw [HWL.out] at h4
          subst h4
          clear own4 b4 pk Bk OU n35 hp3 n3
          go_wp2_with fail
          go_ret
          obtain ⟨h1, h2, h3⟩ := same.out _ p5 (by rw [HE.out]; decide)
          exact ⟨lg, by rw [HE.out]; rfl, h1, h2, h3⟩
      · have hPE := HKY.out (.inr (by omega))
        have HPE := Lib.hid hPE
        have hz64 : ((K.length : Int) == 64) = false := by simp; omega
        obtain ⟨kl, hkl⟩ : ∃ kl, K.length = kl := ⟨_, rfl⟩
        rw [hkl] at hz64
        have HKL := Lib.hid hkl
        clear hPE h64 HKN HKY hk64 hkl
        go_enter Try.func38, Try.ntmps38
        go_wp2_with fail
        refine (C1.out _ (by repeat' (first | with_reducible exact Below.refl _ _ | with_reducible assumption | with_reducible refine bel_drew ?_ | with_reducible refine bel_alloc ?_ _ | with_reducible refine bel_set ?_ ?_ _ | with_reducible refine bel_call ?_ (by assumption) | (dsimp only; omega) | (simp; done) | (simp; omega)))).mono ?_
        rintro e w' ⟨rfl, rfl⟩
        go_wp2_with fail
        refine wp_region_below (by kernel_rfl) (by kernel_rfl) ?_
        iterate 11 (first | (refine lex_skip (by rfl) (fun _ _ _ _ h => h) ?_; simp only [Act.put, List.setIfInBounds_toArray, List.set_cons_zero, List.set_cons_succ]) | (refine lex_op (by rfl) ?_; apply Exists.intro; refine ⟨?_, ?_⟩; ((intro _ _ _ _ hT; obtain ⟨hc, hf⟩ := bcell hT; go_simp; first | exact rfl | exact call_below hT (C2.out _ ((bel_alloc1 _ _).trans (hT.mono (by simp)))))); simp only [Act.put, List.setIfInBounds_toArray, List.set_cons_zero, List.set_cons_succ]))
        refine lex_nil ?_
        intro w3 bel5
        have p3 : Below w.heap.size w w3 := (bel_alloc1 _ _).trans (bel5.mono (by simp))
        have B3 : Blk w3 w.heap.size [.int .u64 r.key, .float .f64 r.val] 66 := Blk.below (Blk.new _ _ rfl) bel5
        clear bel5
        go_wp2_with fail
        refine (C3.out _ p3).mono ?_
        rintro e w5 ⟨v3, rfl, own3, b3⟩
        have pk : Below w.heap.size w w5 := p3.trans (b3.mono p3.size)
        have Bk := B3.below b3
        have n35 := b3.size
        have hp3 := p3.size
        have n3 := B3.lt
        obtain ⟨a3, cap3, h3⟩ := own3.shape
        rw [HKL.out] at h3
        subst h3
        have OU := Lib.hid own3
        clear own3 p3 B3 b3
        have HP5 := Lib.hid pk
        have HB5 := Lib.hid Bk
        clear pk Bk n35 hp3 n3 z0 z2 x0 y1 y2 C1 C2 C3 same hky hK50 HRI OU
        have HE : Hid (prodE s p r = 0) := Lib.hid HPE.out
        have HS' : Hid (prodS s p r = s.put p r) := Lib.hid (by unfold prodS; rw [if_pos HE.out])
        obtain ⟨ZS, hZS⟩ : ∃ ZS, flat (lgc lg) s.n = ZS := ⟨_, rfl⟩
        have hs5 := HF.out.keep HP5.out
        have hblk := hs5.src.gs
        have HAT : Hid (ZS[p]? = some (.slice a m cap)) := Lib.hid (by rw [← hZS, ← HV.out]; have := flat_get (el := lgc lg) (lgc_len lg) (k := 0) (n := s.n) (by decide) hp; rw [Nat.mul_one, Nat.add_zero] at this; exact this)
        have HFZ : Hid (∀ v14 w6 (f1 : OwnR w6 0 v14 (s.log p ++ [r])) (f2 : v14.ownBlock = (Value.slice a m cap).ownBlock ∨ ∀ b, v14.ownBlock = some b → w5.heap.size ≤ b) (b6 : Blk w6 gb (ZS.set p v14) 22) (u6 : Upd w5 w6 (fun b => b = gb ∨ (Value.slice a m cap).ownBlock = some b)), RSrcF w6 base tb gb ob lv (fun i => if i = p then v14 else lg i) (s.put p r) ∧ Upd w w6 (fun b => b = gb ∨ (lg p).ownBlock = some b) ∧ Newer w p lg (fun i => if i = p then v14 else lg i)) := Lib.hid (fun v14 w6 f1 f2 b6 u6 => rsrc_put HF.out HP5.out hp HOK.out HE.out HV.out f1 f2 (hZS ▸ b6) u6)
        rw [hZS] at hblk
        have HZ := Lib.hid hblk
        have HOL : Hid (OwnR w5 0 (.slice a m cap) (s.log p)) := Lib.hid (HV.out ▸ hs5.src.rc p hp)
        have z0 : w5.cell? ⟨tb, 0, none⟩ = some (.slice (some ⟨gb, 0, none⟩) N N) := by rw [hs5.src.h0, HN.out]
        have n0 := hs5.src.hd.lt
        have n5 := hs5.src.gs.lt
        have nx0 : ¬ (tb = gb ∨ (Value.slice a m cap).ownBlock = some tb) := by
          rintro (h | h)
          · exact kind_ne hs5.src.hd.kind hs5.src.gs.kind (by decide) h
          · exact kind_ne (HOL.out.kind h) hs5.src.hd.kind (by decide) rfl
        have HNB : Hid ((Value.slice a m cap).ownBlock ≠ some gb) := Lib.hid (fun h => kind_ne (HOL.out.kind h) hs5.src.gs.kind (by decide) rfl)
        have n1 : w.heap.size < w5.heap.size := HB5.out.lt
        have nx1 : ¬ (w.heap.size = gb ∨ (Value.slice a m cap).ownBlock = some w.heap.size) := by
          rintro (h | h)
          · have := HF.out.src.gs.lt; omega
          · have := ((HV.out ▸ HF.out.src.rc p hp : OwnR w 0 (.slice a m cap) (s.log p)).lt _ h).2; omega
        have y0 : w5.cell? ⟨w.heap.size, 0, none⟩ = some (.int .u64 r.key) := HB5.out.cell 0
        have y1 : w5.cell? ⟨w.heap.size, 1, none⟩ = some (.float .f64 r.val) := HB5.out.cell 1
        clear hs5 hblk hZS HF HB5 HP5
        go_wp2_with fail
        refine RV.wp_region_ghost (PrC w5 (.slice a m cap) (s.log p) r gb p ZS 22 13 14 16) (by kernel_rfl) (by kernel_rfl) PrC.loc (.begin _ (by decide) (by decide) (by decide) HOL.out HZ.out) ?_
        refine RV.lexg_val (fun _ => by rfl) ?_; apply Exists.intro; refine ⟨?_, ?_⟩; ((intro g L w' hU hT; have hT' := hT.step (j := 0) (by decide); clear hT hU; go_simp; exact rfl)); simp only [Act.put, List.setIfInBounds_toArray, List.set_cons_zero, List.set_cons_succ]
        refine RV.lexg_val (fun _ => by rfl) ?_; apply Exists.intro; refine ⟨?_, ?_⟩; ((intro g L w' hU hT; have hT' := hT.step (j := 1) (by decide); clear hT hU; go_simp; exact rfl)); simp only [Act.put, List.setIfInBounds_toArray, List.set_cons_zero, List.set_cons_succ]
        refine RV.lexg_val (fun _ => by rfl) ?_; apply Exists.intro; refine ⟨?_, ?_⟩; ((intro g L w' hU hT; have hT' := hT.step (j := 2) (by decide); clear hT hU; go_simp; exact rfl)); simp only [Act.put, List.setIfInBounds_toArray, List.set_cons_zero, List.set_cons_succ]
        refine RV.lexg_val (fun _ => by rfl) ?_; apply Exists.intro; refine ⟨?_, ?_⟩; ((intro g L w' hU hT; have hT' := hT.step (j := 3) (by decide); have e0 := (cell_upd hT.upd n0 nx0 0).trans z0; clear hT hU; go_simp; exact rfl)); simp only [Act.put, List.setIfInBounds_toArray, List.set_cons_zero, List.set_cons_succ]
        refine RV.lexg_val (fun _ => by rfl) ?_; apply Exists.intro; refine ⟨?_, ?_⟩; ((intro g L w' hU hT; have hT' := hT.step (j := 4) (by decide); clear hT hU; go_simp; exact rfl)); simp only [Act.put, List.setIfInBounds_toArray, List.set_cons_zero, List.set_cons_succ]
        refine RV.lexg_val (fun _ => by rfl) ?_; apply Exists.intro; refine ⟨?_, ?_⟩; ((intro g L w' hU hT; have hT' := hT.step (j := 5) (by decide); clear hT hU; go_simp; exact rfl)); simp only [Act.put, List.setIfInBounds_toArray, List.set_cons_zero, List.set_cons_succ]
        refine RV.lexg_val (fun _ => by rfl) ?_; apply Exists.intro; refine ⟨?_, ?_⟩; ((intro g L w' hU hT; have hT' := hT.step (j := 6) (by decide); clear hT hU; go_simp; exact rfl)); simp only [Act.put, List.setIfInBounds_toArray, List.set_cons_zero, List.set_cons_succ]
        refine RV.lexg_val (fun _ => by rfl) ?_; apply Exists.intro; refine ⟨?_, ?_⟩; ((intro g L w' hU hT; have hT' := hT.step (j := 7) (by decide); clear hT hU; go_simp; exact rfl)); simp only [Act.put, List.setIfInBounds_toArray, List.set_cons_zero, List.set_cons_succ]
        refine RV.lexg_val (fun _ => by rfl) ?_; apply Exists.intro; refine ⟨?_, ?_⟩; ((intro g L w' hU hT; have hT' := hT.step (j := 8) (by decide); have e0 := (cell_upd hT.upd n0 nx0 0).trans z0; clear hT hU; go_simp; exact rfl)); simp only [Act.put, List.setIfInBounds_toArray, List.set_cons_zero, List.set_cons_succ]
        refine RV.lexg_val (fun _ => by rfl) ?_; apply Exists.intro; refine ⟨?_, ?_⟩; ((intro g L w' hU hT; have hT' := hT.step (j := 9) (by decide); clear hT hU; go_simp; exact rfl)); simp only [Act.put, List.setIfInBounds_toArray, List.set_cons_zero, List.set_cons_succ]
        refine RV.lexg_val (fun _ => by rfl) ?_; apply Exists.intro; refine ⟨?_, ?_⟩; ((intro g L w' hU hT; have hT' := hT.step (j := 10) (by decide); clear hT hU; go_simp; exact rfl)); simp only [Act.put, List.setIfInBounds_toArray, List.set_cons_zero, List.set_cons_succ]
        refine RV.lexg_val (fun _ => by rfl) ?_; apply Exists.intro; refine ⟨?_, ?_⟩; ((intro g L w' hU hT; have hT' := hT.step (j := 11) (by decide); have h14 := hU.closed.no (j := 14) (i := 11) rfl (by kernel_rfl) hU.not; have h16 := hU.closed.no (j := 16) (i := 14) rfl (by kernel_rfl) h14; have hB := hT.blk; rw [h16, if_neg (by decide)] at hB; have e1 : w'.cell? ⟨gb, p, none⟩ = some (.slice a m cap) := (hB.cell p).trans HAT.out; clear hB h14 h16; clear hT hU; go_simp; exact rfl)); simp only [Act.put, List.setIfInBounds_toArray, List.set_cons_zero, List.set_cons_succ]
        refine RV.lexg_val (fun _ => by rfl) ?_; apply Exists.intro; refine ⟨?_, ?_⟩; ((intro g L w' hU hT; have hT' := hT.step (j := 12) (by decide); have e1 := (cell_upd hT.upd n1 nx1 0).trans y0; have e2 := (cell_upd hT.upd n1 nx1 1).trans y1; clear hT hU; go_simp; exact rfl)); simp only [Act.put, List.setIfInBounds_toArray, List.set_cons_zero, List.set_cons_succ]
        refine RV.lexg_new (fun _ => by rfl) ?_ ?_
        · intro g L w' hU hT
          have h14 := hU.closed.no (j := 14) (i := 13) rfl (by kernel_rfl) hU.not
          have h16 := hU.closed.no (j := 16) (i := 14) rfl (by kernel_rfl) h14
          refine lx_ok (u := .slice (some ⟨w'.heap.size, 0, none⟩) 1 1) (w' := w'.alloc (.cells #[.int .u64 r.key, .float .f64 r.val] 66)) ?_ (hT.build (by decide) h14 h16 HOK.out rfl)
          clear hT hU
          go_simp
        simp only [Act.put, List.setIfInBounds_toArray, List.set_cons_zero, List.set_cons_succ]
        refine RV.lexg_new (fun _ => by rfl) ?_ ?_
        · intro g L w' hU hT
          have h13 : L 13 = true := hU.yes rfl (by kernel_rfl)
          have h16 := hU.closed.no (j := 16) (i := 14) rfl (by kernel_rfl) hU.not
          obtain ⟨u, w'', h1, h2, h3, h4⟩ := run_append_recs (hT.own hU.not) (hT.bs h13 hU.not) (Nat.zero_le _) (by have := HLE.out; rw [List.length_singleton]; omega) 22 rfl
          exact lx_append rfl rfl rfl h1 (hT.append (by decide) hU.not h16 h2 h3 h4 HNB.out)
        simp only [Act.put, List.setIfInBounds_toArray, List.set_cons_zero, List.set_cons_succ]
        refine RV.lexg_val (fun _ => by rfl) ?_; apply Exists.intro; refine ⟨?_, ?_⟩; ((intro g L w' hU hT; have hT' := hT.step (j := 15) (by decide); clear hT hU; go_simp; exact rfl)); simp only [Act.put, List.setIfInBounds_toArray, List.set_cons_zero, List.set_cons_succ]
        refine RV.lexg_op (fun _ => by rfl) ?_
        refine ⟨fun _ => undef, ?_, RV.known_const _ _, ?_⟩
        · intro g L w' hU hT
          have h14 : L 14 = true := hU.yes rfl (by kernel_rfl)
          have hf := hT.fin h14
          have hT' := hT.store (by decide) h14 hU.not (fun b hb => kind_ne (hf.1.kind hb) hT.blk.kind (by decide))
          have hB := hT.blk
          rw [hU.not, if_neg (by decide)] at hB
          have f0 := hB.free p
          have c0 : w'.cell? ⟨gb, p, none⟩ = some (.slice a m cap) := (hB.cell p).trans HAT.out
          obtain ⟨a', cap', hsh⟩ := hf.1.shape
          generalize (s.log p ++ [r]).length = k14 at hsh
          rw [hsh] at hT'
          clear hT hU hf hB h14
          go_simp
        simp only [Act.put]
        refine RV.lexg_nil ?_
        intro g w6 hT
        obtain ⟨f1, f2⟩ := hT.fin rfl
        have u6 := hT.upd
        have b6 := hT.blk
        rw [if_pos rfl] at b6
        clear hT
        dsimp only
        generalize g 14 = v14 at *
        have HFIN := Lib.hid (HFZ.out _ _ f1 f2 b6 u6)
        clear f1 f2 u6 b6
        go_wp2_with fail
        go_ret
        obtain ⟨h1, h2, h3⟩ := HFIN.out
        exact ⟨_, by rw [HE.out]; rfl, by rw [HS'.out]; exact h1, h2, h3⟩
end
end Go.Proofs.Ytbckfoldjlgabaa
