/- PLAIN: cells: a key's value ahead of a batch and behind it. -/
import Derived.Test.YtelofaceadlfmaaDoorAggPure
namespace Go.Proofs.YtelofaceadlfmaaDoor.Fl

structure Cl where
  key : Nat
  prev : V
  cur : V
  batch : Int
  deriving DecidableEq
def Cl.zero : Cl := ⟨0, V.none, V.none, 0⟩
def Cl.ok (c : Cl) : Prop := c.prev.ok ∧ c.cur.ok
def applyC (k : Int) (c : Cl) (b : Int) (p : V) : Cl :=
  if known k = false ∨ b < 1 ∨ b < c.batch then Cl.zero
  else ⟨c.key, if c.batch < b then c.cur else c.prev, merge k (if c.batch < b then c.cur else c.prev) p, b⟩
def applyE (k : Int) (c : Cl) (b : Int) : Int := if known k = false ∨ b < 1 then 1 else if b < c.batch then 100 else 0
def revertC (c : Cl) (b : Int) : Cl := if b = c.batch ∧ 1 ≤ b then ⟨c.key, c.prev, c.prev, b - 1⟩ else c
def resolveC (c : Cl) (m : Int) : V := if m < c.batch then c.prev else c.cur
def emptyC (c : Cl) : Bool := !c.prev.has && !c.cur.has
def fitC (k : Int) (c : Cl) : Bool := known k && decide (fit k c.prev = c.prev) && decide (fit k c.cur = c.cur) && decide (0 ≤ c.batch) && decide (c.batch ≤ 1099511627776)
theorem apply_arg {k : Int} {c : Cl} {b : Int} {p : V} (h : known k = false ∨ b < 1) : applyC k c b p = Cl.zero ∧ applyE k c b = 1 := by
  unfold applyC applyE
  rw [if_pos (by rcases h with h | h; exact .inl h; exact .inr (.inl h)), if_pos h]
  exact ⟨rfl, rfl⟩
theorem apply_over {k : Int} {c : Cl} {b : Int} {p : V} (hk : known k = true) (h1 : ¬ b < 1) (h2 : b < c.batch) : applyC k c b p = Cl.zero ∧ applyE k c b = 100 := by
  have n2 : ¬ (known k = false ∨ b < 1) := by rintro (h | h); rw [hk] at h; cases h; exact h1 h
  unfold applyC applyE
  simp only [if_neg n2, if_pos h2, if_pos (show known k = false ∨ b < 1 ∨ b < c.batch from .inr (.inr h2)), and_self]
theorem apply_new {k : Int} {c : Cl} {b : Int} {p : V} (hk : known k = true) (h1 : ¬ b < 1) (h2 : c.batch < b) : applyC k c b p = ⟨c.key, c.cur, merge k c.cur p, b⟩ ∧ applyE k c b = 0 := by
  have h3 : ¬ b < c.batch := by omega
  have n1 : ¬ (known k = false ∨ b < 1 ∨ b < c.batch) := by rintro (h | h | h); rw [hk] at h; cases h; exact h1 h; exact h3 h
  have n2 : ¬ (known k = false ∨ b < 1) := by rintro (h | h); rw [hk] at h; cases h; exact h1 h
  unfold applyC applyE
  simp only [if_neg n1, if_neg n2, if_neg h3, if_pos h2, and_self]
theorem apply_again {k : Int} {c : Cl} {b : Int} {p : V} (hk : known k = true) (h1 : ¬ b < 1) (h2 : b = c.batch) : applyC k c b p = ⟨c.key, c.prev, merge k c.prev p, b⟩ ∧ applyE k c b = 0 := by
  have h3 : ¬ b < c.batch := by omega
  have h4 : ¬ c.batch < b := by omega
  have n1 : ¬ (known k = false ∨ b < 1 ∨ b < c.batch) := by rintro (h | h | h); rw [hk] at h; cases h; exact h1 h; exact h3 h
  have n2 : ¬ (known k = false ∨ b < 1) := by rintro (h | h); rw [hk] at h; cases h; exact h1 h
  unfold applyC applyE
  simp only [if_neg n1, if_neg n2, if_neg h3, if_neg h4, and_self]
theorem applyC_ok {k : Int} {c : Cl} {b : Int} {p : V} (h : c.ok) (hp : p.ok) : (applyC k c b p).ok := by
  unfold applyC
  split
  · exact ⟨none_ok, none_ok⟩
  · have : (if c.batch < b then c.cur else c.prev).ok := by split; exact h.2; exact h.1
    exact ⟨this, merge_ok this hp⟩
theorem revertC_ok {c : Cl} {b : Int} (h : c.ok) : (revertC c b).ok := by
  unfold revertC
  split
  · exact ⟨h.1, h.1⟩
  · exact h
theorem resolveC_ok {c : Cl} {m : Int} (h : c.ok) : (resolveC c m).ok := by
  unfold resolveC
  split
  · exact h.1
  · exact h.2
end Go.Proofs.YtelofaceadlfmaaDoor.Fl
