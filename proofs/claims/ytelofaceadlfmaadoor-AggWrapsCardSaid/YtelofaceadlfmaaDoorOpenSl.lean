/- HELPERS: what comes in as a slice of structs: its elements' cells. -/
import Derived.Test.YtelofaceadlfmaaDoorOpenCell
import Derived.Deep.Slices
import Derived.ChangeArms
import Derived.DataReads
namespace Go.Proofs.YtelofaceadlfmaaDoor
open Go.ChangeShapes Go.WideShapes Go.ChangeAt Go.RowKit Go.Deep
open Fl (V Cl)
instance : Inhabited V := ⟨⟨false, 0⟩⟩

section
variable {H : Type} {enc : TypeId × Value → H} {P : Program} {w : World} {base : Nat} {spare : Nat → Bool} {held : Bool}
/-- a struct's field, read alone -/
theorem trod_field {t : TypeId} {fs : Array Field} (ht : P.underlying t = some (.struct fs)) {fuel : Nat} {cs : List Value} {x : DataW H × List MemPlace} (h : DataW.trod enc P w base spare held fuel t cs = some x) (i : Nat) {f : Field} (hf : fs[i]? = some f) :
    ∃ n y, DataW.trod enc P w base spare held n f.type ((cs.drop f.offset).take (P.cellsOf f.type)) = some y := by
  obtain ⟨xs, n, _, _, _, hz, hx⟩ := DataW.trod_struct ht h
  have hi : i < xs.length := by
    rw [hz]
    rcases Nat.lt_or_ge i fs.size with h' | h'
    · exact h'
    · rw [Array.getElem?_eq_none h'] at hf; cases hf
  exact ⟨n, xs[i], by rw [hx i f hf, List.getElem?_eq_getElem hi]⟩
theorem trod_len {t : TypeId} {fs : Array Field} (ht : P.underlying t = some (.struct fs)) {fuel : Nat} {cs : List Value} {x : DataW H × List MemPlace} (h : DataW.trod enc P w base spare held fuel t cs = some x) :
    cs.length = P.cellsOf t := (DataW.trod_struct ht h).choose_spec.choose_spec.2.2.1
theorem trod_u64 {t : TypeId} (ht : P.underlying t = some (.int .u64)) {fuel : Nat} {c : Value} {x : DataW H × List MemPlace} (h : DataW.trod enc P w base spare held fuel t [c] = some x) : ∃ n : Nat, c = .int .u64 (n : Int) ∧ n < 2 ^ 64 := by
  obtain ⟨n, hc, _, hw⟩ := DataW.trod_int ht h
  cases hc
  have hw' : (0 : Int) ≤ n ∧ n ≤ 18446744073709551615 := by
    simp only [Lit.wf, Bool.and_eq_true, decide_eq_true_eq] at hw
    exact hw
  exact ⟨n.toNat, by rw [Int.toNat_of_nonneg hw'.1], by omega⟩
theorem trod_i64 {t : TypeId} (ht : P.underlying t = some (.int .i64)) {fuel : Nat} {c : Value} {x : DataW H × List MemPlace} (h : DataW.trod enc P w base spare held fuel t [c] = some x) : ∃ n : Int, c = .int .i64 n ∧ -9223372036854775808 ≤ n ∧ n ≤ 9223372036854775807 := by
  obtain ⟨n, hc, _, hw⟩ := DataW.trod_int ht h
  cases hc
  have hw' : (-9223372036854775808 : Int) ≤ n ∧ n ≤ 9223372036854775807 := by
    simp only [Lit.wf, Bool.and_eq_true, decide_eq_true_eq] at hw
    exact hw
  exact ⟨n, rfl, hw'⟩
theorem trod_b {t : TypeId} (ht : P.underlying t = some .bool) {fuel : Nat} {c : Value} {x : DataW H × List MemPlace} (h : DataW.trod enc P w base spare held fuel t [c] = some x) : ∃ b : Bool, c = .bool b := by
  obtain ⟨b, hc, _⟩ := DataW.trod_bool ht h
  cases hc
  exact ⟨b, rfl⟩
/-- the cells of one element, one by one -/
theorem cells_at {a : Addr} {k n : Nat} {cs : List Value} (h : w.cells? base (a.add k) n = some cs) (hn : 0 < n) :
    a.block < w.heap.size ∧ (0 < k ∨ a.spot = none) ∧ ∀ i, i < n → w.cell? ⟨a.block, a.off + (k + i), none⟩ = cs[i]? := by
  obtain ⟨_, hl, hc⟩ := World.cells?_some h
  have h0 := hc 0 hn
  rw [List.getElem?_eq_getElem (by omega)] at h0
  have hb : a.block < w.heap.size := by
    unfold World.cell? at h0
    rcases Nat.lt_or_ge a.block w.heap.size with h' | h'
    · exact h'
    · simp [Addr.add] at h0
      split at h0 <;> (try split at h0) <;> simp_all
  have hs : 0 < k ∨ a.spot = none := by
    by_cases hk : k = 0
    · right
      subst hk
      unfold World.cell? at h0
      simp [Addr.add] at h0
      split at h0 <;> simp_all
    · left; omega
  refine ⟨hb, hs, fun i hi => ?_⟩
  rw [← hc i hi, add_add]
  unfold Addr.add
  by_cases hki : k + i = 0
  · rw [if_pos hki]
    have hk : k = 0 := by omega
    have : a.spot = none := by
      rcases hs with h' | h'
      · omega
      · exact h'
    rw [hki, Nat.add_zero, ← this]
  · rw [if_neg hki]
end

/-- the values of a slice of api.Value -/
structure Vals (w : World) (b o len : Nat) (p : Nat → V) : Prop where
  lt : b < w.heap.size
  ok : ∀ i, i < len → (p i).ok
  has : ∀ i, i < len → w.cell? ⟨b, o + (i * 2 + 0), none⟩ = some (.bool (p i).has)
  bits : ∀ i, i < len → w.cell? ⟨b, o + (i * 2 + 1), none⟩ = some (.int .u64 (p i).bits)
section
variable {H : Type} {enc : TypeId × Value → H} {w : World} {spare : Nat → Bool} {held : Bool}
theorem open_value {fuel : Nat} {cs : List Value} {x : DataW H × List MemPlace} (h : DataW.trod enc Tryd.prog w 0 spare held fuel 27 cs = some x) :
    ∃ p : V, cs = [.bool p.has, .int .u64 p.bits] ∧ p.ok := by
  have hl := (trod_len Tryd.underlying27 h).trans (show Tryd.prog.cellsOf 27 = 2 by kernel_rfl)
  match cs, hl with
  | [c0, c1], _ =>
    obtain ⟨_, _, h0⟩ := trod_field Tryd.underlying27 h 0 rfl
    obtain ⟨_, _, h1⟩ := trod_field Tryd.underlying27 h 1 rfl
    rw [show Tryd.prog.cellsOf _ = 1 by kernel_rfl] at h0 h1
    obtain ⟨b, rfl⟩ := trod_b Tryd.underlying4 h0
    obtain ⟨n, rfl, hn⟩ := trod_u64 Tryd.underlying25 h1
    exact ⟨⟨b, n⟩, rfl, hn⟩
theorem open_vals {fuel : Nat} {cs : List Value} {x : DataW H × List MemPlace} (h : DataW.trod enc Tryd.prog w 0 spare held fuel 31 cs = some x) :
    (∃ a cap, cs = [.slice a 0 cap]) ∨ ∃ b o len cap p, 0 < len ∧ cs = [.slice (some ⟨b, o, none⟩) len cap] ∧ len ≤ maxLen ∧ Vals w b o len p := by
  rcases open_slice Tryd.underlying31 h with ⟨h0, _⟩ | ⟨a, len, cap, m, n, D, Pl, rfl, _, hl, hm, hmm, _, hx⟩
  · exact Or.inl ⟨_, _, h0⟩
  rcases Nat.eq_zero_or_pos len with rfl | hp
  · exact Or.inl ⟨_, _, rfl⟩
  right
  rw [show Tryd.prog.cellsOf 27 = 2 by kernel_rfl] at hx
  have hlm : len ≤ m := by rw [hmm]; split <;> omega
  have hx' : ∀ i, i < len → ∃ p : V, p.ok ∧ w.cell? ⟨a.block, a.off + (i * 2 + 0), none⟩ = some (.bool p.has) ∧ w.cell? ⟨a.block, a.off + (i * 2 + 1), none⟩ = some (.int .u64 p.bits) := fun i hi => by
    obtain ⟨cs, h1, h2⟩ := hx i (by omega)
    obtain ⟨p, rfl, hpk⟩ := open_value h2
    obtain ⟨_, _, h3⟩ := cells_at h1 (by decide)
    exact ⟨p, hpk, h3 0 (by decide), h3 1 (by decide)⟩
  obtain ⟨p, hP⟩ := choose_lt hx'
  obtain ⟨cs, h1, _⟩ := hx 0 (by omega)
  obtain ⟨hb, hs, _⟩ := cells_at h1 (by decide)
  obtain ⟨ab, ao, aspot⟩ := a
  obtain rfl : aspot = none := by
    rcases hs with h' | h'
    · exact absurd h' (by decide)
    · exact h'
  exact ⟨ab, ao, len, cap, p, hp, rfl, by omega, hb, fun i hi => (hP i hi).1, fun i hi => (hP i hi).2.1, fun i hi => (hP i hi).2.2⟩
end
theorem cell_slice {P : Program} {w : World} {r : Reach} {base : Nat} {t e : TypeId} {v : Value} (ht : P.underlying t = some (.slice e)) (h : Cell.okWide P w r base t v) : ∃ a n c, v = .slice a n c := by
  cases v <;> simp only [Cell.okWide, Cell.ok, ht] at h
  exact ⟨_, _, _, rfl⟩
end Go.Proofs.YtelofaceadlfmaaDoor
