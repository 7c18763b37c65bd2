/- OpsChain: for every list and record, cut anywhere. Conditions: none. -/
import Derived.Test.YtgcbjpdmnlanoaaOpenOp
import Derived.Test.YtgcbjpdmnlanoaaOpsV
namespace Go.Proofs.Ytgcbjpdmnlanoaa.opsChainDone
open Go.ChangeShapes Go.WideShapes Go.ChangeAt Go.RowKit
section
open Go.Deep
variable {H : Type} {enc : TypeId × Value → H} {w : World} {spare : Nat → Bool} {held : Bool}
theorem open_stps_cap {fuel : Nat} {cs : List Value} {x : DataW H × List MemPlace} (h : DataW.trod enc Try.prog w 0 spare held fuel 22 cs = some x) :
    ∃ a len cap rb ro f, cs = [.slice a len cap] ∧ (0 < len → a = some ⟨rb, ro, none⟩) ∧ (0 < len → Stps w rb ro len f) ∧ len ≤ cap ∧ cap ≤ maxLen := by
  rcases open_slice Try.underlying22 h with ⟨h0, _⟩ | ⟨a, len, cap, m, n, D, Pl, rfl, _, hl, hm, hmm, hxx, hx⟩
  · exact ⟨_, _, _, 0, 0, fun _ => default, h0, fun h => absurd h (Nat.lt_irrefl 0), fun h => absurd h (Nat.lt_irrefl 0), Nat.le_refl _, Nat.zero_le _⟩
  rcases Nat.eq_zero_or_pos len with rfl | hp
  · exact ⟨_, _, _, 0, 0, fun _ => default, rfl, fun h => absurd h (Nat.lt_irrefl 0), fun h => absurd h (Nat.lt_irrefl 0), Nat.zero_le _, hm⟩
  rw [show Try.prog.cellsOf 40 = 3 by kernel_rfl] at hx
  have hlm : len ≤ m := by rw [hmm]; split <;> omega
  have hx' : ∀ i, i < len → ∃ o : Stp, o.ok ∧ w.cell? ⟨a.block, a.off + (i * 3 + 0), none⟩ = some (.int .i64 o.kind) ∧ w.cell? ⟨a.block, a.off + (i * 3 + 1), none⟩ = some (.int .i64 o.n) ∧ w.cell? ⟨a.block, a.off + (i * 3 + 2), none⟩ = some (.float .f64 o.x) := fun i hi => by
    obtain ⟨cs, h1, h2⟩ := hx i (by omega)
    obtain ⟨p, rfl, hpk⟩ := open_stp h2
    obtain ⟨_, _, h3⟩ := cells_at h1 (by decide)
    exact ⟨p, hpk, h3 0 (by decide), h3 1 (by decide), h3 2 (by decide)⟩
  obtain ⟨p, hP⟩ := choose_lt hx'
  obtain ⟨cs, h1, _⟩ := hx 0 (by omega)
  obtain ⟨hb, hs, _⟩ := cells_at h1 (by decide)
  obtain ⟨ab, ao, aspot⟩ := a
  obtain rfl : aspot = none := by
    rcases hs with h' | h'
    · exact absurd h' (by decide)
    · exact h'
  exact ⟨_, len, cap, ab, ao, p, rfl, fun _ => rfl, fun _ => ⟨hb, fun i hi => (hP i hi).1, fun i hi => (hP i hi).2.1, fun i hi => (hP i hi).2.2.1, fun i hi => (hP i hi).2.2.2⟩, hl, hm⟩
end
set_option maxRecDepth 100000 in
theorem lifted (os : Os) (started : os.Started) (H : Type) (enc : TypeId × Value → H) :
    ReturnsInHanded {} Try.checked os 6 .any (Rows.opsChainSpec.pre6 enc Try.prog Try.f6 Rows.opsChainRow.domain false) (Rows.opsChainSpec.post enc Try.prog Try.f6 false true false false) := by
  refine returnsInHanded_of_change (C := Try.checked) own started (by kernel_rfl) Try.func6
    (ChangeSpec.witness6 (enc := enc) (C := Try.checked) false ⟨#[], #[.slice none 0 0, .agg #[.int .u64 0, .float .f64 0], .int .i64 0], []⟩ 8 (by kernel_rfl) (by kernel_rfl) (by kernel_rfl) (by kernel_rfl)) ?_
  intro W base args ds gs before hval0 hW hcnd _
  have hval : ∀ (j : Nat) t v, Try.f6.params[j]? = some t → args[j]? = some v → Value.okWide Try.prog W .any base t v := hval0
  have hW' := hW
  obtain ⟨p, q, hA0, hV, rfl, hfz, hnd⟩ := hW
  have hA : DataW.TrodAll enc Try.prog W 0 (fun _ => true) true Try.f6.params.toList args.toList ds p := hA0
  rw [Try.params6] at hA hval
  obtain ⟨v0, vs0, d0, ds0, p0, q0, hargs, rfl, rfl, h0, r0⟩ := trodAll_cons hA
  obtain ⟨v1, vs1, d1, ds1, p1, q1, rfl, rfl, rfl, h1, r1⟩ := trodAll_cons r0
  obtain ⟨v2, vs2, d2, ds2, p2, q2, rfl, rfl, rfl, h2, r2⟩ := trodAll_cons r1
  obtain ⟨rfl, rfl, rfl⟩ := trodAll_nil r2
  obtain rfl : args = #[v0, v1, v2] := by cases args; simp_all
  obtain ⟨rfl, rfl⟩ := trodVars_none hV
  have lt0 : ∀ x ∈ p0, x.block < W.heap.size := by obtain ⟨m, hm⟩ := h0; exact DataW.trod_lt m _ _ _ hm
  have lt1 : ∀ x ∈ p1, x.block < W.heap.size := by obtain ⟨m, hm⟩ := h1; exact DataW.trod_lt m _ _ _ hm
  have lt2 : ∀ x ∈ p2, x.block < W.heap.size := by obtain ⟨m, hm⟩ := h2; exact DataW.trod_lt m _ _ _ hm
  obtain ⟨a0, l0, c0, rfl⟩ := okWide_slice Try.underlying22 (hval 0 22 v0 rfl rfl)
  obtain ⟨r, rfl, hok⟩ := open_rec (hval 1 31 v1 rfl rfl)
  obtain ⟨k, rfl, _, _⟩ := cell_i64 Try.underlying3 (plain_cell (by rw [Try.underlying3]) (hval 2 3 v2 rfl rfl))
  obtain ⟨m0, hm0⟩ := id h0
  obtain ⟨a, len, cap, rb, ro, f, e0, ha, hr, hlc, hcm⟩ := open_stps_cap hm0
  cases e0
  have hmx : maxLen = 9223372036854775807 := by kernel_rfl
  clear hA0 hval0
  refine (chain_any a0 l0 c0 rb ro f r k W hlc (by omega) ha hr hok).mono fun e W' ⟨he, bel⟩ => ?_
  subst he
  exact ⟨_, rfl, _, _, _, [], _, [], hW', trodAll_mk1 (shut_bool Try.underlying4 _),
    (trodAll_cons_mk (Below.trod laidOut (by kernel_rfl) (of_decide_eq_true (by kernel_rfl)) h0 bel lt0)
    (trodAll_cons_mk (Below.trod laidOut (by kernel_rfl) (of_decide_eq_true (by kernel_rfl)) h1 bel lt1)
    (trodAll_cons_mk (Below.trod laidOut (by kernel_rfl) (of_decide_eq_true (by kernel_rfl)) h2 bel lt2) trodAll_mk0))), rfl, bel.frame _, fun h => by cases h⟩

theorem proved : Rows.OpsChainSaid :=
  OpenClaim.holds_of_wide 6 Try.f6 rfl rfl rfl rfl rfl rfl rfl ⟨rfl, rfl, rfl, rfl, rfl⟩ rfl rfl rfl rfl rfl (by kernel_rfl) Try.func6 (by kernel_rfl)
    (of_decide_eq_true (by kernel_rfl)) (by unfold Func.isWrapper; first | (rw [if_pos (by decide +kernel)]; kernel_rfl) | (rw [if_neg (by decide +kernel)]; exact ⟨rfl, rfl⟩))
    (fun os started H enc _ => lifted os started H enc)
#print axioms proved
end Go.Proofs.Ytgcbjpdmnlanoaa.opsChainDone
