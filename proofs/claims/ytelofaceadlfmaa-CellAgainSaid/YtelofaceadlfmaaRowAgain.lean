/- CellAgain: for every kind, cell, batch, parts and marks. Conditions: none. -/
import Derived.Test.YtelofaceadlfmaaOpenSl
import Derived.Test.YtelofaceadlfmaaLawAgain
namespace Go.Proofs.Ytelofaceadlfmaa
open Go.RowKit
open Fl (V Cl fitC)
section
variable {H : Type} {enc : TypeId × Value → H} {w : World} {spare : Nat → Bool} {held : Bool}
open Go.Deep
theorem open_bools {fuel : Nat} {sa : Option Addr} {sl sc : Nat} {x : DataW H × List MemPlace} (h : DataW.trod enc Try.prog w 0 spare held fuel 41 [.slice sa sl sc] = some x) :
    ∃ (bb bo : Nat) (g : Nat → Bool), (0 < sl → sa = some ⟨bb, bo, none⟩) ∧ (0 < sl → bb < w.heap.size ∧ ∀ i, i < sl → w.cell? ⟨bb, bo + i, none⟩ = some (.bool (g i))) := by
  rcases open_slice Try.underlying41 h with ⟨h0, _⟩ | ⟨a, len, cap, m, n, D, Pl, h0, _, hl, hm, hmm, hxx, hx⟩
  · cases h0
    exact ⟨0, 0, fun _ => false, fun h => absurd h (Nat.lt_irrefl 0), fun h => absurd h (Nat.lt_irrefl 0)⟩
  cases h0
  rcases Nat.eq_zero_or_pos sl with rfl | hp
  · exact ⟨0, 0, fun _ => false, fun h => absurd h (Nat.lt_irrefl 0), fun h => absurd h (Nat.lt_irrefl 0)⟩
  rw [show Try.prog.cellsOf 4 = 1 by kernel_rfl] at hx
  have hlm : sl ≤ m := by rw [hmm]; split <;> omega
  have hx' : ∀ i, i < sl → ∃ r : Bool, w.cell? ⟨a.block, a.off + (i * 1 + 0), none⟩ = some (.bool r) := fun i hi => by
    obtain ⟨cs, h1, h2⟩ := hx i (by omega)
    obtain ⟨_, _, h3⟩ := cells_at h1 (by decide)
    obtain ⟨b, hc, _⟩ := DataW.trod_bool Try.underlying4 h2
    subst hc
    exact ⟨b, h3 0 (by decide)⟩
  obtain ⟨p, hP⟩ := choose_lt hx'
  obtain ⟨cs, h1, _⟩ := hx 0 (by omega)
  obtain ⟨hb, hs, _⟩ := cells_at h1 (by decide)
  obtain ⟨ab, ao, aspot⟩ := a
  obtain rfl : aspot = none := by
    rcases hs with h' | h'
    · exact absurd h' (by decide)
    · exact h'
  exact ⟨ab, ao, p, fun _ => rfl, fun _ => ⟨hb, fun i hi => by have := hP i hi; rw [Nat.mul_one, Nat.add_zero] at this; exact this⟩⟩
end
/-- every input -/
theorem again_any {H : Type} {enc : TypeId × Value → H} {spare : Nat → Bool} {held : Bool} (k : Int) (c : Cl) (b : Int) (s0 : Value) (sa : Option Addr) (sl sc : Nat) (w : World) (hc : c.ok) (hb : -9223372036854775808 ≤ b ∧ b ≤ 9223372036854775807)
    (hs : ∃ n y, DataW.trod enc Try.prog w 0 spare held n 40 [s0] = some y) (hg : ∃ n y, DataW.trod enc Try.prog w 0 spare held n 41 [.slice sa sl sc] = some y) :
    Calls Try.prog 4 #[.agg #[.int .i64 k, .int .u64 c.key, .bool c.prev.has, .int .u64 c.prev.bits, .bool c.cur.has, .int .u64 c.cur.bits, .int .i64 c.batch, .int .i64 b, s0, .slice sa sl sc]] w fun e w' => e = .returned (.bool true) ∧ Below w.heap.size w w' := by
  obtain ⟨key, prev, cur, n⟩ := c
  cases hf : fitC k (⟨key, prev, cur, n⟩ : Cl) with
  | false => exact again_unfit k key prev cur n b s0 sa sl sc w hc hf
  | true =>
    by_cases h1 : b ≤ n
    · exact again_back k key prev cur n b s0 sa sl sc w hc hf h1
    obtain ⟨m, y, hm⟩ := hs
    obtain ⟨_, _, hgm⟩ := hg
    obtain ⟨bb, bo, g, hsa, hbk⟩ := open_bools hgm
    rcases open_vals hm with ⟨a, cap, h0⟩ | ⟨pb, po, pl, pc, p, hp, h0, hlm, hv⟩
    · cases h0
      exact again_none k key prev cur n b sa sl sc w a cap hc hf h1
    · cases h0
      exact again_main k key prev cur n b pb po pl pc p sa sl sc bb bo g w hc hf h1 hb hp (Nat.le_trans hlm (Nat.le_of_eq (show maxLen = 9223372036854775807 by kernel_rfl))) hv hsa hbk
end Go.Proofs.Ytelofaceadlfmaa
namespace Go.Proofs.Ytelofaceadlfmaa.cellAgainDone
open Go.ChangeShapes Go.WideShapes Go.ChangeAt Go.RowKit
set_option maxRecDepth 100000 in
theorem lifted (os : Os) (started : os.Started) (H : Type) (enc : TypeId × Value → H) :
    ReturnsInHanded {} Try.checked os 4 .any (Rows.cellAgainSpec.pre6 enc Try.prog Try.f4 Rows.cellAgainRow.domain false) (Rows.cellAgainSpec.post enc Try.prog Try.f4 false true false false) := by
  refine returnsInHanded_of_change (C := Try.checked) own started (by kernel_rfl) Try.func4
    (ChangeSpec.witness6 (enc := enc) (C := Try.checked) false ⟨#[], #[.agg #[.int .i64 0, .int .u64 0, .bool false, .int .u64 0, .bool false, .int .u64 0, .int .i64 0, .int .i64 0, .slice none 0 0, .slice none 0 0]], []⟩ 8 (by kernel_rfl) (by kernel_rfl) (by kernel_rfl) (by kernel_rfl)) ?_
  intro W base args ds gs before hval0 hW hcnd _
  have hval : ∀ (j : Nat) t v, Try.f4.params[j]? = some t → args[j]? = some v → Value.okWide Try.prog W .any base t v := hval0
  have hW' := hW
  obtain ⟨p, q, hA0, hV, rfl, hfz, hnd⟩ := hW
  have hA : DataW.TrodAll enc Try.prog W 0 (fun _ => true) true Try.f4.params.toList args.toList ds p := hA0
  rw [Try.params4] at hA hval
  obtain ⟨v0, vs0, d0, ds0, p0, q0, hargs, rfl, rfl, h0, r0⟩ := trodAll_cons hA
  obtain ⟨rfl, rfl, rfl⟩ := trodAll_nil r0
  obtain rfl : args = #[v0] := by cases args; simp_all
  obtain ⟨rfl, rfl⟩ := trodVars_none hV
  have lt0 : ∀ x ∈ p0, x.block < W.heap.size := by obtain ⟨m, hm⟩ := h0; exact DataW.trod_lt m _ _ _ hm
  obtain ⟨k, c, b, s0, sa, sl, sc, rfl, hc, _, hb, hs, hg⟩ := open_attempts (hval 0 43 v0 rfl rfl) h0
  clear hA0 hval0
  refine (again_any k c b s0 sa sl sc W hc hb hs hg).mono fun e W' ⟨he, bel⟩ => ?_
  subst he
  exact ⟨_, rfl, _, _, _, [], _, [], hW', trodAll_mk1 (shut_bool Try.underlying4 _),
    (trodAll_cons_mk (Below.trod laidOut (by kernel_rfl) (of_decide_eq_true (by kernel_rfl)) h0 bel lt0) trodAll_mk0), rfl, bel.frame _, fun h => by cases h⟩

theorem proved : Rows.CellAgainSaid :=
  OpenClaim.holds_of_wide 4 Try.f4 rfl rfl rfl rfl rfl rfl rfl ⟨rfl, rfl, rfl, rfl, rfl⟩ rfl rfl rfl rfl rfl (by kernel_rfl) Try.func4 (by kernel_rfl)
    (of_decide_eq_true (by kernel_rfl)) (by unfold Func.isWrapper; first | (rw [if_pos (by decide +kernel)]; kernel_rfl) | (rw [if_neg (by decide +kernel)]; exact ⟨rfl, rfl⟩))
    (fun os started H enc _ => lifted os started H enc)
#print axioms proved
end Go.Proofs.Ytelofaceadlfmaa.cellAgainDone
