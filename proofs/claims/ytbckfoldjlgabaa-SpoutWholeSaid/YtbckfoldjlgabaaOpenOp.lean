/- HELPERS: what comes in as steps and records. -/
import Derived.Test.YtbckfoldjlgabaaOpenFl
import Derived.Test.YtbckfoldjlgabaaOpsD
namespace Go.Proofs.Ytbckfoldjlgabaa
open Go.ChangeShapes Go.WideShapes Go.ChangeAt Go.RowKit Go.Deep
instance : Inhabited Stp := ⟨⟨0, 0, 0⟩⟩
instance : Inhabited Rc := ⟨⟨0, 0⟩⟩
section
variable {H : Type} {enc : TypeId × Value → H} {P : Program} {w : World} {base : Nat} {spare : Nat → Bool} {held : Bool}
/-- a struct's field, read alone -/
theorem trod_field {t : TypeId} {fs : Array Field} (ht : P.underlying t = some (.struct fs)) {fuel : Nat} {cs : List Value} {x : DataW H × List MemPlace} (h : DataW.trod enc P w base spare held fuel t cs = some x) (i : Nat) {f : Field} (hf : fs[i]? = some f) :
    ∃ n y, DataW.trod enc P w base spare held n f.type ((cs.drop f.offset).take (P.cellsOf f.type)) = some y := by
  obtain ⟨xs, n, _, _, _, hz, hx⟩ := DataW.trod_struct ht h
  have hi : i < xs.length := by
    rw [hz]
    rcases Nat.lt_or_ge i fs.size with h' | h'
    · exact h'
    · rw [Array.getElem?_eq_none h'] at hf; cases hf
  exact ⟨n, xs[i], by rw [hx i f hf, List.getElem?_eq_getElem hi]⟩
theorem trod_len {t : TypeId} {fs : Array Field} (ht : P.underlying t = some (.struct fs)) {fuel : Nat} {cs : List Value} {x : DataW H × List MemPlace} (h : DataW.trod enc P w base spare held fuel t cs = some x) :
    cs.length = P.cellsOf t := (DataW.trod_struct ht h).choose_spec.choose_spec.2.2.1
theorem trod_u64 {t : TypeId} (ht : P.underlying t = some (.int .u64)) {fuel : Nat} {c : Value} {x : DataW H × List MemPlace} (h : DataW.trod enc P w base spare held fuel t [c] = some x) : ∃ n : Int, c = .int .u64 n ∧ 0 ≤ n ∧ n ≤ 18446744073709551615 := by
  obtain ⟨n, hc, _, hw⟩ := DataW.trod_int ht h
  cases hc
  have hw' : (0 : Int) ≤ n ∧ n ≤ 18446744073709551615 := by
    simp only [Lit.wf, Bool.and_eq_true, decide_eq_true_eq] at hw
    exact hw
  exact ⟨n, rfl, hw'⟩
theorem trod_i64 {t : TypeId} (ht : P.underlying t = some (.int .i64)) {fuel : Nat} {c : Value} {x : DataW H × List MemPlace} (h : DataW.trod enc P w base spare held fuel t [c] = some x) : ∃ n : Int, c = .int .i64 n ∧ -9223372036854775808 ≤ n ∧ n ≤ 9223372036854775807 := by
  obtain ⟨n, hc, _, hw⟩ := DataW.trod_int ht h
  cases hc
  have hw' : (-9223372036854775808 : Int) ≤ n ∧ n ≤ 9223372036854775807 := by
    simp only [Lit.wf, Bool.and_eq_true, decide_eq_true_eq] at hw
    exact hw
  exact ⟨n, rfl, hw'⟩
end
section
variable {H : Type} {enc : TypeId × Value → H} {w : World} {spare : Nat → Bool} {held : Bool}
theorem open_stp {fuel : Nat} {cs : List Value} {x : DataW H × List MemPlace} (h : DataW.trod enc Try.prog w 0 spare held fuel 73 cs = some x) :
    ∃ o : Stp, cs = [.int .i64 o.kind, .int .i64 o.n, .float .f64 o.x] ∧ o.ok := by
  have hl := (trod_len Try.underlying73 h).trans (show Try.prog.cellsOf 73 = 3 by kernel_rfl)
  match cs, hl with
  | [c0, c1, c2], _ =>
    obtain ⟨_, _, h0⟩ := trod_field Try.underlying73 h 0 rfl
    obtain ⟨_, _, h1⟩ := trod_field Try.underlying73 h 1 rfl
    obtain ⟨_, _, h2⟩ := trod_field Try.underlying73 h 2 rfl
    rw [show Try.prog.cellsOf _ = 1 by kernel_rfl] at h0 h1 h2
    obtain ⟨k, rfl, k1, k2⟩ := trod_i64 Try.underlying3 h0
    obtain ⟨n, rfl, n1, n2⟩ := trod_i64 Try.underlying2 h1
    obtain ⟨b, rfl, hb⟩ := trod_f64 Try.underlying64 h2
    exact ⟨⟨k, n, b⟩, rfl, k1, k2, n1, n2, hb⟩
theorem open_rc {fuel : Nat} {cs : List Value} {x : DataW H × List MemPlace} (h : DataW.trod enc Try.prog w 0 spare held fuel 66 cs = some x) :
    ∃ r : Rc, cs = [.int .u64 r.key, .float .f64 r.val] ∧ r.ok := by
  have hl := (trod_len Try.underlying66 h).trans (show Try.prog.cellsOf 66 = 2 by kernel_rfl)
  match cs, hl with
  | [c0, c1], _ =>
    obtain ⟨_, _, h0⟩ := trod_field Try.underlying66 h 0 rfl
    obtain ⟨_, _, h1⟩ := trod_field Try.underlying66 h 1 rfl
    rw [show Try.prog.cellsOf _ = 1 by kernel_rfl] at h0 h1
    obtain ⟨k, rfl, k1, k2⟩ := trod_u64 Try.underlying63 h0
    obtain ⟨b, rfl, hb⟩ := trod_f64 Try.underlying64 h1
    exact ⟨⟨k, b⟩, rfl, k1, k2, hb⟩
theorem open_stps {fuel : Nat} {cs : List Value} {x : DataW H × List MemPlace} (h : DataW.trod enc Try.prog w 0 spare held fuel 74 cs = some x) :
    ∃ a len cap rb ro f, cs = [.slice a len cap] ∧ (0 < len → a = some ⟨rb, ro, none⟩) ∧ (0 < len → Stps w rb ro len f) ∧ len ≤ maxLen := by
  rcases open_slice Try.underlying74 h with ⟨h0, _⟩ | ⟨a, len, cap, m, n, D, Pl, rfl, _, hl, hm, hmm, hxx, hx⟩
  · exact ⟨_, _, _, 0, 0, fun _ => default, h0, fun h => absurd h (Nat.lt_irrefl 0), fun h => absurd h (Nat.lt_irrefl 0), Nat.zero_le _⟩
  rcases Nat.eq_zero_or_pos len with rfl | hp
  · exact ⟨_, _, _, 0, 0, fun _ => default, rfl, fun h => absurd h (Nat.lt_irrefl 0), fun h => absurd h (Nat.lt_irrefl 0), Nat.zero_le _⟩
  rw [show Try.prog.cellsOf 73 = 3 by kernel_rfl] at hx
  have hlm : len ≤ m := by rw [hmm]; split <;> omega
  have hx' : ∀ i, i < len → ∃ o : Stp, o.ok ∧ w.cell? ⟨a.block, a.off + (i * 3 + 0), none⟩ = some (.int .i64 o.kind) ∧ w.cell? ⟨a.block, a.off + (i * 3 + 1), none⟩ = some (.int .i64 o.n) ∧ w.cell? ⟨a.block, a.off + (i * 3 + 2), none⟩ = some (.float .f64 o.x) := fun i hi => by
    obtain ⟨cs, h1, h2⟩ := hx i (by omega)
    obtain ⟨p, rfl, hpk⟩ := open_stp h2
    obtain ⟨_, _, h3⟩ := cells_at h1 (by decide)
    exact ⟨p, hpk, h3 0 (by decide), h3 1 (by decide), h3 2 (by decide)⟩
  obtain ⟨p, hP⟩ := choose_lt hx'
  obtain ⟨cs, h1, _⟩ := hx 0 (by omega)
  obtain ⟨hb, hs, _⟩ := cells_at h1 (by decide)
  obtain ⟨ab, ao, aspot⟩ := a
  obtain rfl : aspot = none := by
    rcases hs with h' | h'
    · exact absurd h' (by decide)
    · exact h'
  exact ⟨_, len, cap, ab, ao, p, rfl, fun _ => rfl, fun _ => ⟨hb, fun i hi => (hP i hi).1, fun i hi => (hP i hi).2.1, fun i hi => (hP i hi).2.2.1, fun i hi => (hP i hi).2.2.2⟩, by omega⟩
end
/-- the records of a slice -/
structure Rcs (w : World) (b o len : Nat) (f : Nat → Rc) : Prop where
  lt : b < w.heap.size
  ok : ∀ i, i < len → (f i).ok
  c0 : ∀ i, i < len → w.cell? ⟨b, o + (i * 2 + 0), none⟩ = some (.int .u64 (f i).key)
  c1 : ∀ i, i < len → w.cell? ⟨b, o + (i * 2 + 1), none⟩ = some (.float .f64 (f i).val)
section
variable {H : Type} {enc : TypeId × Value → H} {w : World} {spare : Nat → Bool} {held : Bool}
theorem open_rcs {fuel : Nat} {cs : List Value} {x : DataW H × List MemPlace} (h : DataW.trod enc Try.prog w 0 spare held fuel 22 cs = some x) :
    ∃ a len cap rb ro f, cs = [.slice a len cap] ∧ (0 < len → a = some ⟨rb, ro, none⟩) ∧ (0 < len → Rcs w rb ro len f) ∧ len ≤ maxLen := by
  rcases open_slice Try.underlying22 h with ⟨h0, _⟩ | ⟨a, len, cap, m, n, D, Pl, rfl, _, hl, hm, hmm, hxx, hx⟩
  · exact ⟨_, _, _, 0, 0, fun _ => default, h0, fun h => absurd h (Nat.lt_irrefl 0), fun h => absurd h (Nat.lt_irrefl 0), Nat.zero_le _⟩
  rcases Nat.eq_zero_or_pos len with rfl | hp
  · exact ⟨_, _, _, 0, 0, fun _ => default, rfl, fun h => absurd h (Nat.lt_irrefl 0), fun h => absurd h (Nat.lt_irrefl 0), Nat.zero_le _⟩
  rw [show Try.prog.cellsOf 66 = 2 by kernel_rfl] at hx
  have hlm : len ≤ m := by rw [hmm]; split <;> omega
  have hx' : ∀ i, i < len → ∃ o : Rc, o.ok ∧ w.cell? ⟨a.block, a.off + (i * 2 + 0), none⟩ = some (.int .u64 o.key) ∧ w.cell? ⟨a.block, a.off + (i * 2 + 1), none⟩ = some (.float .f64 o.val) := fun i hi => by
    obtain ⟨cs, h1, h2⟩ := hx i (by omega)
    obtain ⟨p, rfl, hpk⟩ := open_rc h2
    obtain ⟨_, _, h3⟩ := cells_at h1 (by decide)
    exact ⟨p, hpk, h3 0 (by decide), h3 1 (by decide)⟩
  obtain ⟨p, hP⟩ := choose_lt hx'
  obtain ⟨cs, h1, _⟩ := hx 0 (by omega)
  obtain ⟨hb, hs, _⟩ := cells_at h1 (by decide)
  obtain ⟨ab, ao, aspot⟩ := a
  obtain rfl : aspot = none := by
    rcases hs with h' | h'
    · exact absurd h' (by decide)
    · exact h'
  exact ⟨_, len, cap, ab, ao, p, rfl, fun _ => rfl, fun _ => ⟨hb, fun i hi => (hP i hi).1, fun i hi => (hP i hi).2.1, fun i hi => (hP i hi).2.2⟩, by omega⟩
theorem typesRec : Try.prog.cellTypes Try.prog.depth 66 = some [63, 64] := by kernel_rfl
set_option maxRecDepth 10000 in
/-- what comes in as a record -/
theorem open_rec {w : World} {r : Reach} {base : Nat} {v : Value} (h : Value.okWide Try.prog w r base 66 v) :
    ∃ c : Rc, v = .agg #[.int .u64 c.key, .float .f64 c.val] ∧ c.ok := by
  obtain ⟨cs, rfl, hl, hc⟩ := open_cells Try.underlying66 h typesRec (by kernel_rfl)
  match cs, hl with
  | [c0, c1], _ =>
    obtain ⟨a, rfl, h1, h2⟩ := cell_int Try.underlying63 (hc 0 c0 _ rfl rfl)
    obtain ⟨b, rfl, hb⟩ := cell_float Try.underlying64 (hc 1 c1 _ rfl rfl)
    exact ⟨⟨a, b⟩, rfl, h1, h2, hb⟩
end
end Go.Proofs.Ytbckfoldjlgabaa
