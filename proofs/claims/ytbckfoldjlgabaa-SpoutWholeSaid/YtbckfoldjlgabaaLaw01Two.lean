/- WALK of FbitTwo. -/
import Derived.Test.YtbckfoldjlgabaaLaw01A
import Derived.Deep.LoopGhost
namespace Go.Proofs.Ytbckfoldjlgabaa
open Go.RowKit
open Fl (nan key canon ord least most)
theorem wp_world {P : Program} {c : Code} {Q : Exit → Act → World → Prop} {a : Act} {W : World} {X : World → Prop} (h : X W) (k : ∀ W', X W' → c.wp P Q a W') : c.wp P Q a W := k W h
/-- the floats of a slice -/
structure Fls (w : World) (b o len : Nat) (f : Nat → Nat) : Prop where
  lt : b < w.heap.size
  ok : ∀ i, i < len → f i < 2 ^ 64
  c0 : ∀ i, i < len → w.cell? ⟨b, o + i, none⟩ = some (.float .f64 (f i))
end Go.Proofs.Ytbckfoldjlgabaa
