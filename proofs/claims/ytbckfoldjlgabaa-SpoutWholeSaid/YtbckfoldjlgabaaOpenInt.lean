/- HELPERS: what comes in as a slice of numbers. -/
import Derived.Test.YtbckfoldjlgabaaOpenOp
import Derived.Test.YtbckfoldjlgabaaSpD
import Derived.SizedLaws
namespace Go.Proofs.Ytbckfoldjlgabaa
open Go.ChangeShapes Go.WideShapes Go.ChangeAt Go.RowKit Go.Deep
section
variable {H : Type} {enc : TypeId × Value → H} {w : World} {spare : Nat → Bool} {held : Bool}
theorem open_ints_dat {fuel : Nat} {cs : List Value} {x : DataW H × List MemPlace} (h : DataW.trod enc Try.prog w 0 spare held fuel 23 cs = some x) :
    ∃ a len cap b o p, cs = [.slice a len cap] ∧ (0 < len → a = some ⟨b, o, none⟩) ∧ (0 < len → Nums w b o len p) ∧ len ≤ cap ∧ cap ≤ maxLen ∧ (len = 0 ∨ ∃ elems spare, x.1 = .slice elems spare ∧ elems.length = len) := by
  rcases open_slice Try.underlying23 h with ⟨h0, _⟩ | ⟨a, len, cap, m, n, D, Pl, rfl, _, hl, hm, hmm, hxx, hx⟩
  · exact ⟨_, _, _, 0, 0, fun _ => 0, h0, fun h => absurd h (Nat.lt_irrefl 0), fun h => absurd h (Nat.lt_irrefl 0), Nat.le_refl _, by unfold maxLen; omega, .inl rfl⟩
  rcases Nat.eq_zero_or_pos len with rfl | hp
  · exact ⟨_, _, _, 0, 0, fun _ => 0, rfl, fun h => absurd h (Nat.lt_irrefl 0), fun h => absurd h (Nat.lt_irrefl 0), by omega, by omega, .inl rfl⟩
  rw [show Try.prog.cellsOf 3 = 1 by kernel_rfl] at hx
  have hlm : len ≤ m := by rw [hmm]; split <;> omega
  have hx' : ∀ i, i < len → ∃ z : Int, (-9223372036854775808 ≤ z ∧ z ≤ 9223372036854775807) ∧ w.cell? ⟨a.block, a.off + (i * 1 + 0), none⟩ = some (.int .i64 z) := fun i hi => by
    obtain ⟨cs, h1, h2⟩ := hx i (by omega)
    obtain ⟨_, _, h3⟩ := cells_at h1 (by decide)
    obtain ⟨n, hc, _, hw⟩ := DataW.trod_int Try.underlying3 h2
    subst hc
    have hw' : (-9223372036854775808 : Int) ≤ n ∧ n ≤ 9223372036854775807 := by
      simp only [Lit.wf, Bool.and_eq_true, decide_eq_true_eq] at hw
      exact hw
    exact ⟨n, hw', h3 0 (by decide)⟩
  obtain ⟨p, hP⟩ := choose_lt hx'
  obtain ⟨cs, h1, _⟩ := hx 0 (by omega)
  obtain ⟨hb, hs, _⟩ := cells_at h1 (by decide)
  obtain ⟨ab, ao, aspot⟩ := a
  obtain rfl : aspot = none := by
    rcases hs with h' | h'
    · exact absurd h' (by decide)
    · exact h'
  exact ⟨_, len, cap, ab, ao, p, rfl, fun _ => rfl, fun _ => ⟨hb, fun i hi => (hP i hi).1, fun i hi => by have := (hP i hi).2; rwa [Nat.mul_one, Nat.add_zero] at this⟩, hl, hm, .inr ⟨_, _, by rw [hxx], by simp⟩⟩
end
/-- an argument that is a slice of numbers -/
theorem ints_arg {H : Type} {enc : TypeId × Value → H} {W : World} {v : Value} {d : DataW H} {p : List MemPlace} (hv : ∃ a n c, v = .slice a n c) (h : DataW.Trod enc Try.prog W 0 (fun _ => true) true 23 v d p)
    (hsz : ∀ el sp, d = .slice el sp → el.length * 8 ≤ 140737488351232) : ∃ l, Ints W v l := by
  obtain ⟨a, n, c, rfl⟩ := hv
  obtain ⟨m, hm⟩ := h
  obtain ⟨a', len, cap, b, o, p, e0, ha, hr, h1, h2, hd⟩ := open_ints_dat hm
  cases e0
  refine ⟨toL n p, a, n, c, b, o, p, rfl, rfl, ha, hr, h1, h2, ?_⟩
  rcases hd with h | ⟨el, sp, hd, hle⟩
  · omega
  · have := hsz el sp hd
    omega
end Go.Proofs.Ytbckfoldjlgabaa
