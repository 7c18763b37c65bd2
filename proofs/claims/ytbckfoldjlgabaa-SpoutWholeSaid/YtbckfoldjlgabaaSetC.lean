/- A law's class: the regions of 'x, .. = f(.., x)'. -/
import Derived.Test.YtbckfoldjlgabaaRegionG
namespace Go.Proofs.Ytbckfoldjlgabaa
open Go.RowKit
theorem setAll_other {b b' : Nat} {t : TypeId} {ds : List Value} (hne : b' ≠ b) : ∀ (cs : List Value) (i : Nat) {w : World}, Blk w b' ds t → Blk (setAll w b i cs) b' ds t
  | [], _, _, h => h
  | _ :: cs, i, _, h => setAll_other hne cs (i + 1) (h.other (a := ⟨b, i, none⟩) hne _)
/-- the worlds of 'x, g = f(.., x)' where x lies in the block b: it holds cs behind the store j, zs ahead of it; whatever else lay in a block lies there still -/
structure SetC (w W : World) (b j : Nat) (cs zs : List Value) (t : TypeId) (L : Nat → Bool) (w' : World) : Prop where
  bel : Below w.heap.size w w'
  blk : Blk w' b (if L j then cs else zs) t
  oth : ∀ b' ds t', b' ≠ b → Blk W b' ds t' → Blk w' b' ds t'
section
variable {w W w' : World} {b j : Nat} {cs zs : List Value} {t : TypeId} {L : Nat → Bool}
theorem SetC.upd (h : SetC w W b j cs zs t L w') {k : Nat} (hk : k ≠ j) : SetC w W b j cs zs t (upd L k) w' :=
  ⟨h.bel, by rw [upd_other L (Ne.symm hk)]; exact h.blk, h.oth⟩
theorem SetC.next {w'' : World} (h : SetC w W b j cs zs t L w') (hb : Below w'.heap.size w' w'') : SetC w W b j cs zs t L w'' :=
  ⟨bel_call h.bel hb, h.blk.below hb, fun b' ds t' h1 h2 => (h.oth b' ds t' h1 h2).below hb⟩
theorem SetC.store (h : SetC w W b j cs zs t L w') (hL : L j = false) (hb : w.heap.size ≤ b) (hl : cs.length = zs.length) : SetC w W b j cs zs t (Go.Proofs.Ytbckfoldjlgabaa.upd L j) (setAll w' b 0 cs) := by
  have h2 := h.blk
  rw [hL, if_neg (by decide)] at h2
  refine ⟨setAll_below hb cs 0 h.bel, ?_, fun b' ds t' h3 h4 => setAll_other h3 cs 0 (h.oth b' ds t' h3 h4)⟩
  rw [upd_same, if_pos rfl]
  exact Blk.setAll cs zs [] h2 hl
theorem SetC.begin (n : Nat) (hj : j < n) (h : Below w.heap.size w W) (hb : Blk W b zs t) : SetC w W b j cs zs t (fun k => decide (n ≤ k)) W.drew :=
  ⟨bel_drew h, by rw [decide_eq_false (by omega), if_neg (by decide)]; exact hb.drew, fun _ _ _ _ h => h.drew⟩
end
end Go.Proofs.Ytbckfoldjlgabaa
