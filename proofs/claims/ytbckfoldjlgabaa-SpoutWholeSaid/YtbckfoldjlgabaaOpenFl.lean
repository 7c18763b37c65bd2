/- HELPERS: what comes in as a slice of floats. -/
import Derived.Test.YtbckfoldjlgabaaOpen
import Derived.Test.YtbckfoldjlgabaaLaw01Two
import Derived.Deep.Slices
import Derived.ChangeArms
import Derived.DataReads
namespace Go.Proofs.Ytbckfoldjlgabaa
open Go.ChangeShapes Go.WideShapes Go.ChangeAt Go.RowKit Go.Deep
section
variable {H : Type} {enc : TypeId × Value → H} {P : Program} {w : World} {base : Nat} {spare : Nat → Bool} {held : Bool}
theorem trod_f64 {t : TypeId} (ht : P.underlying t = some (.float .f64)) {fuel : Nat} {c : Value} {x : DataW H × List MemPlace} (h : DataW.trod enc P w base spare held fuel t [c] = some x) : ∃ n : Nat, c = .float .f64 n ∧ n < 2 ^ 64 := by
  cases fuel with
  | zero => simp [DataW.trod] at h
  | succ n =>
    unfold DataW.trod at h
    rw [ht] at h
    split at h <;> simp_all [Lit.wf]
    rename_i k0 k1 n0 hk hc
    subst hk
    obtain ⟨⟨h1, h2⟩, _⟩ := Option.ite_none_right_eq_some.1 h
    exact ⟨n0, ⟨h1, rfl⟩, of_decide_eq_true h2⟩
/-- the cells of one element, one by one -/
theorem cells_at {a : Addr} {k n : Nat} {cs : List Value} (h : w.cells? base (a.add k) n = some cs) (hn : 0 < n) :
    a.block < w.heap.size ∧ (0 < k ∨ a.spot = none) ∧ ∀ i, i < n → w.cell? ⟨a.block, a.off + (k + i), none⟩ = cs[i]? := by
  obtain ⟨_, hl, hc⟩ := World.cells?_some h
  have h0 := hc 0 hn
  rw [List.getElem?_eq_getElem (by omega)] at h0
  have hb : a.block < w.heap.size := by
    unfold World.cell? at h0
    rcases Nat.lt_or_ge a.block w.heap.size with h' | h'
    · exact h'
    · simp [Addr.add] at h0
      split at h0 <;> (try split at h0) <;> simp_all
  have hs : 0 < k ∨ a.spot = none := by
    by_cases hk : k = 0
    · right
      subst hk
      unfold World.cell? at h0
      simp [Addr.add] at h0
      split at h0 <;> simp_all
    · left; omega
  refine ⟨hb, hs, fun i hi => ?_⟩
  rw [← hc i hi, add_add]
  unfold Addr.add
  by_cases hki : k + i = 0
  · rw [if_pos hki]
    have hk : k = 0 := by omega
    have : a.spot = none := by
      rcases hs with h' | h'
      · omega
      · exact h'
    rw [hki, Nat.add_zero, ← this]
  · rw [if_neg hki]
end
end Go.Proofs.Ytbckfoldjlgabaa
