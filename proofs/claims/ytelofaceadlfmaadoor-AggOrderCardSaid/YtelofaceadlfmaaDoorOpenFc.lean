/- HELPERS: what comes in as a slice of floats, its room too. -/
import Derived.Test.YtelofaceadlfmaaDoorOpenFl
namespace Go.Proofs.YtelofaceadlfmaaDoor
open Go.ChangeShapes Go.WideShapes Go.ChangeAt Go.RowKit Go.Deep
theorem open_floats_cap {H : Type} {enc : TypeId × Value → H} {w : World} {spare : Nat → Bool} {held : Bool} {fuel : Nat} {cs : List Value} {x : DataW H × List MemPlace} (h : DataW.trod enc Tryd.prog w 0 spare held fuel 22 cs = some x) :
    ∃ a len cap rb ro f, cs = [.slice a len cap] ∧ (0 < len → a = some ⟨rb, ro, none⟩) ∧ (0 < len → Fls w rb ro len f) ∧ len ≤ cap ∧ cap ≤ maxLen := by
  rcases open_slice Tryd.underlying22 h with ⟨h0, _⟩ | ⟨a, len, cap, m, n, D, Pl, rfl, _, hl, hm, hmm, hxx, hx⟩
  · exact ⟨_, _, _, 0, 0, fun _ => 0, h0, fun h => absurd h (Nat.lt_irrefl 0), fun h => absurd h (Nat.lt_irrefl 0), Nat.le_refl _, Nat.zero_le _⟩
  rcases Nat.eq_zero_or_pos len with rfl | hp
  · exact ⟨_, _, _, 0, 0, fun _ => 0, rfl, fun h => absurd h (Nat.lt_irrefl 0), fun h => absurd h (Nat.lt_irrefl 0), Nat.zero_le _, hm⟩
  rw [show Tryd.prog.cellsOf 29 = 1 by kernel_rfl] at hx
  have hlm : len ≤ m := by rw [hmm]; split <;> omega
  have hx' : ∀ i, i < len → ∃ r : Nat, r < 2 ^ 64 ∧ w.cell? ⟨a.block, a.off + (i * 1 + 0), none⟩ = some (.float .f64 r) := fun i hi => by
    obtain ⟨cs, h1, h2⟩ := hx i (by omega)
    obtain ⟨_, hcl, _⟩ := World.cells?_some h1
    match cs, hcl with
    | [c], _ =>
      obtain ⟨_, _, h3⟩ := cells_at h1 (by decide)
      obtain ⟨b, rfl, hb⟩ := trod_f64 Tryd.underlying29 h2
      exact ⟨b, hb, h3 0 (by decide)⟩
  obtain ⟨p, hP⟩ := choose_lt hx'
  obtain ⟨cs, h1, _⟩ := hx 0 (by omega)
  obtain ⟨hb, hs, _⟩ := cells_at h1 (by decide)
  obtain ⟨ab, ao, aspot⟩ := a
  obtain rfl : aspot = none := by
    rcases hs with h' | h'
    · exact absurd h' (by decide)
    · exact h'
  exact ⟨_, len, cap, ab, ao, p, rfl, fun _ => rfl, fun _ => ⟨hb, fun i hi => (hP i hi).1, fun i hi => by have := (hP i hi).2; rw [Nat.mul_one, Nat.add_zero] at this; exact this⟩, hl, hm⟩
end Go.Proofs.YtelofaceadlfmaaDoor
