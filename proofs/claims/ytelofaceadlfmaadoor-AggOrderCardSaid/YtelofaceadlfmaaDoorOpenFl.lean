/- HELPERS: what comes in as a slice of floats. -/
import Derived.Test.YtelofaceadlfmaaDoorOpen
import Derived.Test.YtelofaceadlfmaaDoorLaw01Two
import Derived.Deep.Slices
import Derived.ChangeArms
import Derived.DataReads
namespace Go.Proofs.YtelofaceadlfmaaDoor
open Go.ChangeShapes Go.WideShapes Go.ChangeAt Go.RowKit Go.Deep
section
variable {H : Type} {enc : TypeId × Value → H} {P : Program} {w : World} {base : Nat} {spare : Nat → Bool} {held : Bool}
theorem trod_f64 {t : TypeId} (ht : P.underlying t = some (.float .f64)) {fuel : Nat} {c : Value} {x : DataW H × List MemPlace} (h : DataW.trod enc P w base spare held fuel t [c] = some x) : ∃ n : Nat, c = .float .f64 n ∧ n < 2 ^ 64 := by
  cases fuel with
  | zero => simp [DataW.trod] at h
  | succ n =>
    unfold DataW.trod at h
    rw [ht] at h
    split at h <;> simp_all [Lit.wf]
    rename_i k0 k1 n0 hk hc
    subst hk
    obtain ⟨⟨h1, h2⟩, _⟩ := Option.ite_none_right_eq_some.1 h
    exact ⟨n0, ⟨h1, rfl⟩, of_decide_eq_true h2⟩
/-- the cells of one element, one by one -/
theorem cells_at {a : Addr} {k n : Nat} {cs : List Value} (h : w.cells? base (a.add k) n = some cs) (hn : 0 < n) :
    a.block < w.heap.size ∧ (0 < k ∨ a.spot = none) ∧ ∀ i, i < n → w.cell? ⟨a.block, a.off + (k + i), none⟩ = cs[i]? := by
  obtain ⟨_, hl, hc⟩ := World.cells?_some h
  have h0 := hc 0 hn
  rw [List.getElem?_eq_getElem (by omega)] at h0
  have hb : a.block < w.heap.size := by
    unfold World.cell? at h0
    rcases Nat.lt_or_ge a.block w.heap.size with h' | h'
    · exact h'
    · simp [Addr.add] at h0
      split at h0 <;> (try split at h0) <;> simp_all
  have hs : 0 < k ∨ a.spot = none := by
    by_cases hk : k = 0
    · right
      subst hk
      unfold World.cell? at h0
      simp [Addr.add] at h0
      split at h0 <;> simp_all
    · left; omega
  refine ⟨hb, hs, fun i hi => ?_⟩
  rw [← hc i hi, add_add]
  unfold Addr.add
  by_cases hki : k + i = 0
  · rw [if_pos hki]
    have hk : k = 0 := by omega
    have : a.spot = none := by
      rcases hs with h' | h'
      · omega
      · exact h'
    rw [hki, Nat.add_zero, ← this]
  · rw [if_neg hki]
end
theorem open_floats {H : Type} {enc : TypeId × Value → H} {w : World} {spare : Nat → Bool} {held : Bool} {fuel : Nat} {cs : List Value} {x : DataW H × List MemPlace} (h : DataW.trod enc Tryd.prog w 0 spare held fuel 22 cs = some x) :
    ∃ a len cap rb ro f, cs = [.slice a len cap] ∧ (0 < len → a = some ⟨rb, ro, none⟩) ∧ (0 < len → Fls w rb ro len f) ∧ len ≤ maxLen := by
  rcases open_slice Tryd.underlying22 h with ⟨h0, _⟩ | ⟨a, len, cap, m, n, D, Pl, rfl, _, hl, hm, hmm, hxx, hx⟩
  · exact ⟨_, _, _, 0, 0, fun _ => 0, h0, fun h => absurd h (Nat.lt_irrefl 0), fun h => absurd h (Nat.lt_irrefl 0), Nat.zero_le _⟩
  rcases Nat.eq_zero_or_pos len with rfl | hp
  · exact ⟨_, _, _, 0, 0, fun _ => 0, rfl, fun h => absurd h (Nat.lt_irrefl 0), fun h => absurd h (Nat.lt_irrefl 0), Nat.zero_le _⟩
  rw [show Tryd.prog.cellsOf 29 = 1 by kernel_rfl] at hx
  have hlm : len ≤ m := by rw [hmm]; split <;> omega
  have hx' : ∀ i, i < len → ∃ r : Nat, r < 2 ^ 64 ∧ w.cell? ⟨a.block, a.off + (i * 1 + 0), none⟩ = some (.float .f64 r) := fun i hi => by
    obtain ⟨cs, h1, h2⟩ := hx i (by omega)
    obtain ⟨_, hcl, _⟩ := World.cells?_some h1
    match cs, hcl with
    | [c], _ =>
      obtain ⟨_, _, h3⟩ := cells_at h1 (by decide)
      obtain ⟨b, rfl, hb⟩ := trod_f64 Tryd.underlying29 h2
      exact ⟨b, hb, h3 0 (by decide)⟩
  obtain ⟨p, hP⟩ := choose_lt hx'
  obtain ⟨cs, h1, _⟩ := hx 0 (by omega)
  obtain ⟨hb, hs, _⟩ := cells_at h1 (by decide)
  obtain ⟨ab, ao, aspot⟩ := a
  obtain rfl : aspot = none := by
    rcases hs with h' | h'
    · exact absurd h' (by decide)
    · exact h'
  exact ⟨_, len, cap, ab, ao, p, rfl, fun _ => rfl, fun _ => ⟨hb, fun i hi => (hP i hi).1, fun i hi => by have := (hP i hi).2; rw [Nat.mul_one, Nat.add_zero] at this; exact this⟩, by omega⟩
end Go.Proofs.YtelofaceadlfmaaDoor
