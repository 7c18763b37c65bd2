/- HELPERS: what comes in as a slice of values. -/
import Derived.Test.YtelofaceadlfmaaDoorOpenSl
namespace Go.Proofs.YtelofaceadlfmaaDoor
open Go.ChangeShapes Go.WideShapes Go.ChangeAt Go.RowKit Go.Deep
open Fl (V)
theorem open_vls {H : Type} {enc : TypeId × Value → H} {w : World} {spare : Nat → Bool} {held : Bool} {fuel : Nat} {cs : List Value} {x : DataW H × List MemPlace} (h : DataW.trod enc Tryd.prog w 0 spare held fuel 31 cs = some x) :
    ∃ a len cap rb ro f, cs = [.slice a len cap] ∧ (0 < len → a = some ⟨rb, ro, none⟩) ∧ (0 < len → Vals w rb ro len f) ∧ len ≤ maxLen := by
  rcases open_vals h with ⟨a, cap, h0⟩ | ⟨b, o, len, cap, p, _, h0, hl, hv⟩
  · exact ⟨a, 0, cap, 0, 0, fun _ => default, h0, fun h => absurd h (Nat.lt_irrefl 0), fun h => absurd h (Nat.lt_irrefl 0), Nat.zero_le _⟩
  · exact ⟨_, len, cap, b, o, p, h0, fun _ => rfl, fun _ => hv, hl⟩
end Go.Proofs.YtelofaceadlfmaaDoor
