/- CellReverts: for every kind, cell, batch, parts and other batch. Conditions: none. -/
import Derived.Test.YtelofaceadlfmaaOpenSl
import Derived.Test.YtelofaceadlfmaaLawReverts
namespace Go.Proofs.Ytelofaceadlfmaa
open Go.RowKit
open Fl (V Cl fitC)
/-- every input -/
theorem reverts_any {H : Type} {enc : TypeId × Value → H} {spare : Nat → Bool} {held : Bool} (k : Int) (c : Cl) (b other : Int) (s0 : Value) (sa : Option Addr) (sl sc : Nat) (w : World) (hc : c.ok) (hb : -9223372036854775808 ≤ b ∧ b ≤ 9223372036854775807)
    (hs : ∃ n y, DataW.trod enc Try.prog w 0 spare held n 40 [s0] = some y) :
    Calls Try.prog 5 #[.agg #[.int .i64 k, .int .u64 c.key, .bool c.prev.has, .int .u64 c.prev.bits, .bool c.cur.has, .int .u64 c.cur.bits, .int .i64 c.batch, .int .i64 b, s0, .slice sa sl sc], .int .i64 other] w fun e w' => e = .returned (.bool true) ∧ Below w.heap.size w w' := by
  obtain ⟨key, prev, cur, n⟩ := c
  cases hf : fitC k (⟨key, prev, cur, n⟩ : Cl) with
  | false => exact reverts_unfit k key prev cur n b other s0 sa sl sc w hc hf
  | true =>
    by_cases h1 : b ≤ n
    · exact reverts_back k key prev cur n b other s0 sa sl sc w hc hf h1
    obtain ⟨m, y, hm⟩ := hs
    rcases open_vals hm with ⟨a, cap, h0⟩ | ⟨pb, po, pl, pc, p, hp, h0, _, hv⟩
    · cases h0
      exact reverts_none k key prev cur n b other sa sl sc w a cap hc hf h1
    · cases h0
      exact reverts_main k key prev cur n b other pb po pl pc (p 0) sa sl sc w hc (hv.ok 0 hp) hf h1 hb hp hv.lt (hv.has 0 hp) (hv.bits 0 hp)
end Go.Proofs.Ytelofaceadlfmaa
namespace Go.Proofs.Ytelofaceadlfmaa.cellRevertsDone
open Go.ChangeShapes Go.WideShapes Go.ChangeAt Go.RowKit
set_option maxRecDepth 100000 in
theorem lifted (os : Os) (started : os.Started) (H : Type) (enc : TypeId × Value → H) :
    ReturnsInHanded {} Try.checked os 5 .any (Rows.cellRevertsSpec.pre6 enc Try.prog Try.f5 Rows.cellRevertsRow.domain false) (Rows.cellRevertsSpec.post enc Try.prog Try.f5 false true false false) := by
  refine returnsInHanded_of_change (C := Try.checked) own started (by kernel_rfl) Try.func5
    (ChangeSpec.witness6 (enc := enc) (C := Try.checked) false ⟨#[], #[.agg #[.int .i64 0, .int .u64 0, .bool false, .int .u64 0, .bool false, .int .u64 0, .int .i64 0, .int .i64 0, .slice none 0 0, .slice none 0 0], .int .i64 0], []⟩ 8 (by kernel_rfl) (by kernel_rfl) (by kernel_rfl) (by kernel_rfl)) ?_
  intro W base args ds gs before hval0 hW hcnd _
  have hval : ∀ (j : Nat) t v, Try.f5.params[j]? = some t → args[j]? = some v → Value.okWide Try.prog W .any base t v := hval0
  have hW' := hW
  obtain ⟨p, q, hA0, hV, rfl, hfz, hnd⟩ := hW
  have hA : DataW.TrodAll enc Try.prog W 0 (fun _ => true) true Try.f5.params.toList args.toList ds p := hA0
  rw [Try.params5] at hA hval
  obtain ⟨v0, vs0, d0, ds0, p0, q0, hargs, rfl, rfl, h0, r0⟩ := trodAll_cons hA
  obtain ⟨v1, vs1, d1, ds1, p1, q1, rfl, rfl, rfl, h1, r1⟩ := trodAll_cons r0
  obtain ⟨rfl, rfl, rfl⟩ := trodAll_nil r1
  obtain rfl : args = #[v0, v1] := by cases args; simp_all
  obtain ⟨rfl, rfl⟩ := trodVars_none hV
  have lt0 : ∀ x ∈ p0, x.block < W.heap.size := by obtain ⟨m, hm⟩ := h0; exact DataW.trod_lt m _ _ _ hm
  have lt1 : ∀ x ∈ p1, x.block < W.heap.size := by obtain ⟨m, hm⟩ := h1; exact DataW.trod_lt m _ _ _ hm
  obtain ⟨k, c, b, s0, sa, sl, sc, rfl, hc, _, hb, hs, _⟩ := open_attempts (hval 0 43 v0 rfl rfl) h0
  obtain ⟨o, rfl, _⟩ := cell_i64 Try.underlying3 (plain_cell (by rw [Try.underlying3]) (hval 1 3 v1 rfl rfl))
  clear hA0 hval0
  refine (reverts_any k c b o s0 sa sl sc W hc hb hs).mono fun e W' ⟨he, bel⟩ => ?_
  subst he
  exact ⟨_, rfl, _, _, _, [], _, [], hW', trodAll_mk1 (shut_bool Try.underlying4 _),
    (trodAll_cons_mk (Below.trod laidOut (by kernel_rfl) (of_decide_eq_true (by kernel_rfl)) h0 bel lt0)
    (trodAll_cons_mk (Below.trod laidOut (by kernel_rfl) (of_decide_eq_true (by kernel_rfl)) h1 bel lt1) trodAll_mk0)), rfl, bel.frame _, fun h => by cases h⟩

theorem proved : Rows.CellRevertsSaid :=
  OpenClaim.holds_of_wide 5 Try.f5 rfl rfl rfl rfl rfl rfl rfl ⟨rfl, rfl, rfl, rfl, rfl⟩ rfl rfl rfl rfl rfl (by kernel_rfl) Try.func5 (by kernel_rfl)
    (of_decide_eq_true (by kernel_rfl)) (by unfold Func.isWrapper; first | (rw [if_pos (by decide +kernel)]; kernel_rfl) | (rw [if_neg (by decide +kernel)]; exact ⟨rfl, rfl⟩))
    (fun os started H enc _ => lifted os started H enc)
#print axioms proved
end Go.Proofs.Ytelofaceadlfmaa.cellRevertsDone
