/- HELPERS of SpoutMemory: stores into slices of the call's own. -/
import Derived.Test.YtbckfoldjlgabaaSqE
namespace Go.Proofs.Ytbckfoldjlgabaa
open Go.RowKit
open Fl (nan key canon)
def vI (l : List Int) : List Value := l.map (Value.int .i64)
theorem flat_vI (n : Nat) (p : Nat → Int) : flat (inc p) n = vI (toL n p) := by
  induction n with
  | zero => rfl
  | succ n ih =>
    unfold vI toL at *
    rw [List.range_succ, List.map_append, List.map_append]
    show flat (inc p) n ++ inc p n = _
    rw [ih]
    rfl
def okI (l : List Int) : Prop := ∀ x, x ∈ l → -9223372036854775808 ≤ x ∧ x ≤ 9223372036854775807
theorem okI_toL {n : Nat} {p : Nat → Int} : okI (toL n p) ↔ ∀ i, i < n → -9223372036854775808 ≤ p i ∧ p i ≤ 9223372036854775807 := by
  unfold okI toL
  constructor
  · intro h i hi; exact h _ (List.mem_map.2 ⟨i, List.mem_range.2 hi, rfl⟩)
  · rintro h x hx
    obtain ⟨i, hi, rfl⟩ := List.mem_map.1 hx
    exact h i (List.mem_range.1 hi)
theorem OwnI.parts {w : World} {N : Nat} {v : Value} {l : List Int} (h : OwnI w N v l) :
    okI l ∧ l.length ≤ 17592186043904 ∧ ((v = .slice none 0 0 ∧ l = []) ∨ ∃ g cap rest, v = .slice (some ⟨g, 0, none⟩) l.length cap ∧ N ≤ g ∧ l.length ≤ cap ∧ cap ≤ maxLen ∧ rest.length = cap - l.length ∧ Blk w g (vI l ++ rest) 3) := by
  obtain ⟨n, p, rfl, hp, ho, hn⟩ := h
  refine ⟨okI_toL.2 hp, by rw [toL_len]; exact hn, ?_⟩
  rcases ho.2 with ⟨h1, h2⟩ | ⟨g, cap, cur, h1, _⟩
  · left
    refine ⟨h1, ?_⟩
    obtain rfl : n = 0 := by
      have := ho.1
      rcases n with _ | n
      · rfl
      · simp_all [flat, inc]
    rfl
  · subst h1
    obtain ⟨_, h2, h3, h4, rest, h5, h6⟩ := ownsRow_blk ho
    refine .inr ⟨g, cap, rest, by rw [toL_len], h2, by rw [toL_len]; exact h3, h4, by rw [toL_len, h5, Nat.mul_one], ?_⟩
    rw [← flat_vI]
    exact h6
theorem Blk.ownI {w : World} {N g cap : Nat} {l : List Int} {rest : List Value} (hk : okI l) (hl : l.length ≤ 17592186043904) (hN : N ≤ g) (hc : l.length ≤ cap) (hm : cap ≤ maxLen) (hr : rest.length = cap - l.length) (hB : Blk w g (vI l ++ rest) 3) : OwnI w N (.slice (some ⟨g, 0, none⟩) l.length cap) l := by
  obtain ⟨n, p, rfl⟩ : ∃ n p, l = toL n p := ⟨_, _, toL_of 0 l⟩
  rw [toL_len] at *
  rw [← flat_vI] at hB
  exact ⟨n, p, rfl, okI_toL.1 hk, blk_ownsRow (flat_len (inc_len _) n) hN hc hm (by rw [hr, Nat.mul_one]) hB, hl⟩
theorem vI_at {l : List Int} {rest : List Value} {i : Nat} (h : i < l.length) : ∃ x, (vI l ++ rest)[i]? = some (.int .i64 x) :=
  ⟨l[i], by unfold vI; rw [List.getElem?_append_left (by simpa using h), List.getElem?_map, List.getElem?_eq_getElem h]; rfl⟩
theorem vI_set {l : List Int} {rest : List Value} {i : Nat} {x : Int} (h : i < l.length) : (vI l ++ rest).set i (.int .i64 x) = vI (l.set i x) ++ rest := by
  unfold vI
  rw [List.set_append_left _ _ (by simpa using h), List.map_set]
theorem okI_set {l : List Int} {i : Nat} {x : Int} (h : okI l) (hx : -9223372036854775808 ≤ x ∧ x ≤ 9223372036854775807) : okI (l.set i x) := by
  intro y hy
  rcases List.mem_or_eq_of_mem_set hy with h1 | h1
  · exact h y h1
  · rw [h1]; exact hx
/-- a store into such a slice -/
theorem OwnI.store {w : World} {N i n cap : Nat} {aa : Option Addr} {l : List Int} {x : Int} (h : OwnI w N (.slice aa n cap) l) (hi : i < n) (hx : -9223372036854775808 ≤ x ∧ x ≤ 9223372036854775807) :
    l.length = n ∧ ∃ g, aa = some ⟨g, 0, none⟩ ∧ N ≤ g ∧ g < w.heap.size ∧ (∃ y, w.cell? ⟨g, i, none⟩ = some (.int .i64 y)) ∧ w.frozen? ⟨g, i, none⟩ = false ∧
      OwnI (w.setCell ⟨g, i, none⟩ (.int .i64 x)) N (.slice aa n cap) (l.set i x) := by
  obtain ⟨hk, hl, h | ⟨g, cap', rest, h1, h2, h3, h4, h5, h6⟩⟩ := h.parts
  · cases h.1; omega
  · cases h1
    obtain ⟨y, hy⟩ := vI_at (rest := rest) hi
    refine ⟨rfl, g, rfl, h2, h6.lt, ⟨y, (h6.cell i).trans hy⟩, h6.free i, ?_⟩
    have := Blk.ownI (N := N) (g := g) (cap := cap) (l := l.set i x) (rest := rest) (w := w.setCell ⟨g, i, none⟩ (.int .i64 x)) (okI_set hk hx) (by rw [List.length_set]; exact hl) h2 (by rw [List.length_set]; exact h3) h4 (by rw [List.length_set]; exact h5) (h6.set_eq (vI_set hi))
    rwa [List.length_set] at this
/-- records -/
def vR (l : List Rc) : List Value := flat (fun i => rcc (fun j => l.getD j ⟨0, 0⟩) i) l.length
theorem OwnR.parts {w : World} {N : Nat} {v : Value} {l : List Rc} (h : OwnR w N v l) :
    (v = .slice none 0 0 ∧ l = []) ∨ ∃ n p g cap rest, l = toL n p ∧ (∀ i, i < n → (p i).ok) ∧ n ≤ 8796093021952 ∧ v = .slice (some ⟨g, 0, none⟩) n cap ∧ N ≤ g ∧ n ≤ cap ∧ cap ≤ maxLen ∧ rest.length = (cap - n) * 2 ∧ Blk w g (flat (rcc p) n ++ rest) 66 := by
  obtain ⟨n, p, rfl, hp, ho, hn⟩ := h
  rcases ho.2 with ⟨h1, h2⟩ | ⟨g, cap, cur, h1, _⟩
  · left
    refine ⟨h1, ?_⟩
    obtain rfl : n = 0 := by
      rcases n with _ | n
      · rfl
      · simp_all [flat, rcc]
    rfl
  · subst h1
    obtain ⟨_, h2, h3, h4, rest, h5, h6⟩ := ownsRow_blk ho
    exact .inr ⟨n, p, g, cap, rest, rfl, hp, hn, rfl, h2, h3, h4, h5, h6⟩
theorem blk_put_rest {w : World} {b : Nat} {t : TypeId} {el : Nat → List Value} {m N i : Nat} {cs rest : List Value} (h : Blk w b (flat el N ++ rest) t) (hl : ∀ i, (el i).length = m) (hi : i < N) (hc : cs.length = m) : Blk (setAll w b (i * m) cs) b (flat (putAt el i cs) N ++ rest) t := by
  have e1 : flat el N = flat el i ++ el i ++ flat (fun j => el (i + 1 + j)) (N - (i + 1)) := by
    have := flat_tail el (i + 1) (N - (i + 1))
    rw [show i + 1 + (N - (i + 1)) = N by omega] at this
    rw [this, flat]
  have e2 : flat (putAt el i cs) N = flat el i ++ cs ++ flat (fun j => el (i + 1 + j)) (N - (i + 1)) := by
    have := flat_tail (putAt el i cs) (i + 1) (N - (i + 1))
    rw [show i + 1 + (N - (i + 1)) = N by omega] at this
    rw [this, flat]
    congr 1
    · congr 1
      · exact flat_congr fun j hj => by unfold putAt; rw [if_neg (by omega)]
      · unfold putAt; rw [if_pos rfl]
    · exact flat_congr fun j hj => by unfold putAt; rw [if_neg (by omega)]
  rw [e1, List.append_assoc] at h
  have h2 := Blk.mid cs (el i) (flat el i) _ h (by rw [hc, hl])
  rw [flat_len hl] at h2
  rw [e2, List.append_assoc]
  exact h2
/-- a record stored into such a slice -/
theorem OwnR.store {w : World} {N i n cap : Nat} {aa : Option Addr} {l : List Rc} {r : Rc} (h : OwnR w N (.slice aa n cap) l) (hi : i < n) (hr : r.ok) :
    l.length = n ∧ ∃ g, aa = some ⟨g, 0, none⟩ ∧ N ≤ g ∧ g < w.heap.size ∧ (∃ y z, w.cell? ⟨g, i * 2, none⟩ = some (.int .u64 y) ∧ w.cell? ⟨g, i * 2 + 1, none⟩ = some (.float .f64 z)) ∧ w.frozen? ⟨g, i * 2, none⟩ = false ∧ w.frozen? ⟨g, i * 2 + 1, none⟩ = false ∧
      OwnR (setAll w g (i * 2) [.int .u64 r.key, .float .f64 r.val]) N (.slice aa n cap) (l.set i r) := by
  rcases h.parts with h | ⟨n', p, g, cap', rest, h0, hp, hn, h1, h2, h3, h4, h5, h6⟩
  · cases h.1; omega
  · cases h1
    have hb0 := h6.cell (i * 2 + 0)
    have hb1 := h6.cell (i * 2 + 1)
    rw [List.getElem?_append_left (by rw [flat_len (rcc_len _)]; omega), flat_get (rcc_len _) (by decide) hi] at hb0 hb1
    refine ⟨by rw [h0, toL_len], g, rfl, h2, h6.lt, ⟨_, _, hb0, hb1⟩, h6.free _, h6.free _, n, fun j => if j = i then r else p j, ?_, fun j hj => ?_, ?_, hn⟩
    · rw [h0]
      apply List.ext_getElem?
      intro j
      rw [List.getElem?_set]
      by_cases hji : i = j
      · subst hji
        rw [if_pos rfl, if_pos (by rw [toL_len]; exact hi), toL_get hi, if_pos rfl]
      · rw [if_neg hji]
        by_cases hj : j < n
        · rw [toL_get hj, toL_get hj, if_neg (fun h => hji h.symm)]
        · rw [List.getElem?_eq_none (by rw [toL_len]; omega), List.getElem?_eq_none (by rw [toL_len]; omega)]
    · show (if j = i then r else p j).ok
      by_cases hji : j = i
      · rw [if_pos hji]; exact hr
      · rw [if_neg hji]; exact hp j hj
    · have := blk_put_rest h6 (cs := [.int .u64 r.key, .float .f64 r.val]) (rcc_len _) hi rfl
      rw [flat_congr (el' := rcc (fun j => if j = i then r else p j)) (fun j _ => by
        unfold putAt
        by_cases hji : j = i
        · rw [if_pos hji]; subst hji; simp [rcc]
        · rw [if_neg hji]; simp [rcc, hji])] at this
      exact blk_ownsRow (flat_len (rcc_len _) n) h2 h3 h4 h5 this
/-- numbers written down -/
theorem OwnI.lit {w : World} {g : Nat} {l : List Int} (hk : okI l) (hl : l.length ≤ 100) (hB : Blk w g (vI l) 3) : Ints w (.slice (some ⟨g, 0, none⟩) l.length l.length) l :=
  (Blk.ownI (N := 0) (rest := []) hk (by omega) (Nat.zero_le _) (Nat.le_refl _) (by unfold maxLen; omega) (by simp) (by simpa using hB)).ints
/-- a part of a block of numbers -/
theorem Blk.intsAt {w : World} {g o n cap : Nat} {l l1 l2 rest : List Int} (hB : Blk w g (vI (l1 ++ l ++ l2) ++ rest.map (Value.int .i64)) 3) (hk : okI l) (hn : l.length = n) (ho : l1.length = o) (hm : n ≤ 17592186043904) (hc : n ≤ cap) (hcm : cap ≤ maxLen) : Ints w (.slice (some ⟨g, o, none⟩) n cap) l := by
  subst hn ho
  refine ⟨_, _, cap, g, l1.length, fun i => l.getD i 0, rfl, toL_of 0 l, fun _ => rfl, fun _ => ⟨hB.lt, fun i hi => ?_, fun i hi => ?_⟩, hc, hcm, hm⟩
  · have := hk _ (List.getElem_mem hi)
    rw [List.getD_eq_getElem?_getD, List.getElem?_eq_getElem hi]
    exact this
  · rw [hB.cell]
    unfold vI
    rw [List.getElem?_append_left (by simp; omega), List.map_append, List.map_append, List.getElem?_append_left (by simp; omega), List.getElem?_append_right (by simp), List.getElem?_map, List.length_map, Nat.add_sub_cancel_left, List.getElem?_eq_getElem hi, List.getD_eq_getElem?_getD, List.getElem?_eq_getElem hi]
    rfl
end Go.Proofs.Ytbckfoldjlgabaa
