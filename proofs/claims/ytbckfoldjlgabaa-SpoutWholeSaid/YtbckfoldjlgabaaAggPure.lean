/- PLAIN: values of an aggregate: fit, merge, and their laws. -/
import Derived.Test.YtbckfoldjlgabaaFloat
namespace Go.Proofs.Ytbckfoldjlgabaa.Fl

structure V where
  has : Bool
  bits : Nat
  deriving DecidableEq
def V.none : V := ⟨false, 0⟩
def V.ok (x : V) : Prop := x.bits < 2 ^ 64
def known (k : Int) : Bool := decide (1 ≤ k) && decide (k ≤ 4)
def orI (x y : Int) : Int := if x = 0 then y else x
def fit (k : Int) (x : V) : V := if known k && x.has then (if k = 3 ∨ k = 4 then ⟨true, canon x.bits⟩ else x) else V.none
/-- the merge of two values that are fit -/
def mergeF (k : Int) (a b : V) : V :=
  if a.has = false then b else if b.has = false then a
  else if k = 3 then ⟨true, least a.bits b.bits⟩
  else if k = 4 then ⟨true, most a.bits b.bits⟩
  else ⟨true, (a.bits + b.bits) % 2 ^ 64⟩
def merge (k : Int) (a b : V) : V := mergeF k (fit k a) (fit k b)

theorem none_ok : V.none.ok := by unfold V.ok V.none; decide
theorem fit_ok {k : Int} {x : V} (h : x.ok) : (fit k x).ok := by
  unfold fit
  split
  · split
    · exact canon_lt h
    · exact h
  · exact none_ok
theorem merge_ok {k : Int} {a b : V} (ha : a.ok) (hb : b.ok) : (merge k a b).ok := by
  unfold merge mergeF
  have h1 := fit_ok (k := k) ha
  have h2 := fit_ok (k := k) hb
  repeat' split
  · exact h2
  · exact h1
  · exact least_lt h1 h2
  · exact most_lt h1 h2
  · show _ % 2 ^ 64 < 2 ^ 64; omega

theorem fit_has {k : Int} {x : V} (hk : known k = true) : (fit k x).has = x.has := by
  unfold fit
  rw [hk]
  cases h : x.has <;> simp [V.none]
  split <;> simp [h]
theorem fit_unknown {k : Int} {x : V} (hk : known k = false) : fit k x = V.none := by unfold fit; rw [hk]; rfl
theorem fit_not {k : Int} {x : V} (h : x.has = false) : fit k x = V.none := by unfold fit; rw [h]; simp
theorem fit_none (k : Int) : fit k V.none = V.none := fit_not rfl
theorem fit_fit (k : Int) (x : V) : fit k (fit k x) = fit k x := by
  cases hk : known k
  · rw [fit_unknown hk, fit_unknown hk]
  · cases hx : x.has
    · rw [fit_not hx, fit_none]
    · unfold fit
      simp only [hk, hx, Bool.and_self, if_true]
      by_cases h3 : k = 3 ∨ k = 4
      · simp [h3, canon_canon]
      · simp [h3, hx]
theorem fit_has_false {k : Int} {x : V} (h : (fit k x).has = false) : fit k x = V.none := by
  cases hk : known k
  · exact fit_unknown hk
  · rw [fit_has hk] at h; exact fit_not h
theorem fit_merge (k : Int) (a b : V) : fit k (merge k a b) = merge k a b := by
  unfold merge mergeF
  split
  · exact fit_fit _ _
  · split
    · exact fit_fit _ _
    · rename_i h1 h2
      have hk : known k = true := by
        cases hk : known k
        · rw [fit_unknown hk] at h1; exact absurd rfl h1
        · rfl
      unfold known at hk
      simp only [Bool.and_eq_true, decide_eq_true_eq] at hk
      unfold fit known
      split
      · rename_i h3; subst h3; simp [canon_least]
      · split
        · rename_i h3 h4; subst h4; simp [canon_most]
        · rename_i h3 h4; simp [h3, h4, hk.1, hk.2]
theorem merge_unknown {k : Int} {a b : V} (hk : known k = false) : merge k a b = V.none := by
  unfold merge mergeF; rw [fit_unknown hk, fit_unknown hk]; simp [V.none]
theorem merge_comm {k : Int} {a b : V} (ha : a.ok) (hb : b.ok) : merge k a b = merge k b a := by
  have h1 := fit_ok (k := k) ha
  have h2 := fit_ok (k := k) hb
  unfold merge mergeF
  cases ea : (fit k a).has <;> cases eb : (fit k b).has <;> simp only [Bool.true_eq_false, if_true, if_false]
  · rw [fit_has_false ea, fit_has_false eb]
  · rw [Nat.add_comm]
    split
    · congr 1; exact least_of_rank h1 h2 h2 h1 (by omega)
    · split
      · congr 1; exact most_of_rank h1 h2 h2 h1 (by omega)
      · rfl
theorem merge_none_left (k : Int) (b : V) : merge k V.none b = fit k b := by
  unfold merge mergeF; rw [fit_none]; simp [V.none]
theorem merge_none_right (k : Int) (a : V) : merge k a V.none = fit k a := by
  unfold merge mergeF
  rw [fit_none]
  split
  · rename_i h; exact (fit_has_false h).symm
  · rfl
theorem merge_fit_left (k : Int) (a b : V) : merge k (fit k a) b = merge k a b := by unfold merge mergeF; rw [fit_fit]
theorem merge_fit_right (k : Int) (a b : V) : merge k a (fit k b) = merge k a b := by unfold merge mergeF; rw [fit_fit]
theorem merge_has {k : Int} {a b : V} (hk : known k = true) : (merge k a b).has = (a.has || b.has) := by
  unfold merge mergeF
  cases ea : a.has <;> cases eb : b.has <;> simp only [fit_has hk, ea, eb, if_true, Bool.true_eq_false, if_false, Bool.or_self, Bool.or_true, Bool.true_or]
  repeat' split
  all_goals rfl
theorem merge_both {k : Int} {a b : V} (h1 : (fit k a).has = true) (h2 : (fit k b).has = true) : merge k a b =
    (if k = 3 then ⟨true, least (fit k a).bits (fit k b).bits⟩ else if k = 4 then ⟨true, most (fit k a).bits (fit k b).bits⟩ else ⟨true, ((fit k a).bits + (fit k b).bits) % 2 ^ 64⟩) := by
  unfold merge mergeF; rw [h1, h2]; simp
theorem merge_assoc {k : Int} {a b c : V} (ha : a.ok) (hb : b.ok) (hc : c.ok) : merge k (merge k a b) c = merge k a (merge k b c) := by
  have h1 := fit_ok (k := k) ha
  have h2 := fit_ok (k := k) hb
  have h3 := fit_ok (k := k) hc
  cases hk : known k
  · rw [merge_unknown hk, merge_unknown hk]
  cases ea : a.has
  · have := fit_not (k := k) ea
    rw [← merge_fit_left k a b, this, merge_none_left, merge_fit_left, ← merge_fit_left k a, this, merge_none_left, fit_merge]
  cases eb : b.has
  · have := fit_not (k := k) eb
    rw [← merge_fit_right k a b, this, merge_none_right, merge_fit_left, ← merge_fit_left k b c, this, merge_none_left, merge_fit_right]
  cases ec : c.has
  · have := fit_not (k := k) ec
    rw [← merge_fit_right k _ c, this, merge_none_right, fit_merge, ← merge_fit_right k b c, this, merge_none_right, merge_fit_right]
  have e1 := fit_has (k := k) (x := a) hk
  have e2 := fit_has (k := k) (x := b) hk
  have e3 := fit_has (k := k) (x := c) hk
  have e4 := merge_has (k := k) (a := a) (b := b) hk
  have e5 := merge_has (k := k) (a := b) (b := c) hk
  rw [ea] at e1 e4
  rw [eb] at e2 e4 e5
  rw [ec] at e3 e5
  have em := merge_both (k := k) e1 e2
  have en := merge_both (k := k) e2 e3
  have l1 := merge_both (k := k) (a := merge k a b) (b := c) (by rw [fit_merge]; exact e4) e3
  have l2 := merge_both (k := k) (a := a) (b := merge k b c) e1 (by rw [fit_merge]; exact e5)
  rw [fit_merge] at l1 l2
  rw [l1, l2, em, en]
  have q1 := least_lt h1 h2
  have q2 := least_lt h2 h3
  have q3 := most_lt h1 h2
  have q4 := most_lt h2 h3
  by_cases k3 : k = 3
  · simp only [k3, if_true]
    subst k3
    congr 1
    exact least_of_rank q1 h3 h1 q2 (by rw [rank_least, rank_least]; omega)
  · simp only [k3, if_false]
    by_cases k4 : k = 4
    · simp only [k4, if_true]
      subst k4
      congr 1
      exact most_of_rank q3 h3 h1 q4 (by rw [rank_most, rank_most]; omega)
    · simp only [k4, if_false]
      congr 1
      omega
theorem fit_bits {k : Int} {a : V} (ea : (fit k a).has = true) (hk : k = 3 ∨ k = 4) : canon (fit k a).bits = (fit k a).bits := by
  cases hk' : known k
  · rw [fit_unknown hk'] at ea; cases ea
  · rw [fit_has hk'] at ea
    unfold fit
    simp only [hk', ea, Bool.and_self, if_true, hk]
    exact canon_canon _
theorem merge_self {k : Int} {a : V} (ha : a.ok) (hk : k = 3 ∨ k = 4) : merge k a a = fit k a := by
  cases ea : (fit k a).has
  · unfold merge mergeF; rw [ea]; simp
  · have h1 := fit_ok (k := k) ha
    have h2 : (fit k a) = ⟨true, (fit k a).bits⟩ := by
      cases h : fit k a with
      | mk x y => rw [h] at ea; simp at ea; rw [ea]
    have h3 : canon (fit k a).bits = (fit k a).bits := fit_bits ea hk
    unfold merge mergeF
    rw [ea]
    simp only [Bool.true_eq_false, if_false]
    rcases hk with hk | hk
    · simp only [hk, if_true]
      subst hk
      conv => rhs; rw [h2]
      congr 1
      conv => rhs; rw [← h3]
      rw [← canon_least]
      exact rank_inj (least_lt h1 h1) h1 (by rw [rank_least]; omega)
    · subst hk
      simp only [if_true]
      rw [if_neg (by decide)]
      conv => rhs; rw [h2]
      congr 1
      conv => rhs; rw [← h3]
      rw [← canon_most]
      exact rank_inj (most_lt h1 h1) h1 (by rw [rank_most]; omega)
end Go.Proofs.Ytbckfoldjlgabaa.Fl
