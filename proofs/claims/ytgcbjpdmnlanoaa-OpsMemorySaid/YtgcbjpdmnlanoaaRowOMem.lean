/- OpsMemory: for every list and record. Conditions: none. -/
import Derived.Test.YtgcbjpdmnlanoaaOpenOp
import Derived.Test.YtgcbjpdmnlanoaaOpsX
import Derived.SizedLaws
namespace Go.Proofs.Ytgcbjpdmnlanoaa.opsMemoryDone
open Go.ChangeShapes Go.WideShapes Go.ChangeAt Go.RowKit
section
open Go.Deep
variable {H : Type} {enc : TypeId × Value → H} {w : World} {spare : Nat → Bool} {held : Bool}
theorem open_stps_dat {fuel : Nat} {cs : List Value} {x : DataW H × List MemPlace} (h : DataW.trod enc Try.prog w 0 spare held fuel 22 cs = some x) :
    ∃ a len cap rb ro f, cs = [.slice a len cap] ∧ (0 < len → a = some ⟨rb, ro, none⟩) ∧ (0 < len → Stps w rb ro len f) ∧ (len = 0 ∨ ∃ elems spare, x.1 = .slice elems spare ∧ elems.length = len) := by
  rcases open_slice Try.underlying22 h with ⟨h0, _⟩ | ⟨a, len, cap, m, n, D, Pl, rfl, _, hl, hm, hmm, hxx, hx⟩
  · exact ⟨_, _, _, 0, 0, fun _ => default, h0, fun h => absurd h (Nat.lt_irrefl 0), fun h => absurd h (Nat.lt_irrefl 0), .inl rfl⟩
  rcases Nat.eq_zero_or_pos len with rfl | hp
  · exact ⟨_, _, _, 0, 0, fun _ => default, rfl, fun h => absurd h (Nat.lt_irrefl 0), fun h => absurd h (Nat.lt_irrefl 0), .inl rfl⟩
  rw [show Try.prog.cellsOf 40 = 3 by kernel_rfl] at hx
  have hlm : len ≤ m := by rw [hmm]; split <;> omega
  have hx' : ∀ i, i < len → ∃ o : Stp, o.ok ∧ w.cell? ⟨a.block, a.off + (i * 3 + 0), none⟩ = some (.int .i64 o.kind) ∧ w.cell? ⟨a.block, a.off + (i * 3 + 1), none⟩ = some (.int .i64 o.n) ∧ w.cell? ⟨a.block, a.off + (i * 3 + 2), none⟩ = some (.float .f64 o.x) := fun i hi => by
    obtain ⟨cs, h1, h2⟩ := hx i (by omega)
    obtain ⟨p, rfl, hpk⟩ := open_stp h2
    obtain ⟨_, _, h3⟩ := cells_at h1 (by decide)
    exact ⟨p, hpk, h3 0 (by decide), h3 1 (by decide), h3 2 (by decide)⟩
  obtain ⟨p, hP⟩ := choose_lt hx'
  obtain ⟨cs, h1, _⟩ := hx 0 (by omega)
  obtain ⟨hb, hs, _⟩ := cells_at h1 (by decide)
  obtain ⟨ab, ao, aspot⟩ := a
  obtain rfl : aspot = none := by
    rcases hs with h' | h'
    · exact absurd h' (by decide)
    · exact h'
  exact ⟨_, len, cap, ab, ao, p, rfl, fun _ => rfl, fun _ => ⟨hb, fun i hi => (hP i hi).1, fun i hi => (hP i hi).2.1, fun i hi => (hP i hi).2.2.1, fun i hi => (hP i hi).2.2.2⟩, .inr ⟨_, _, by rw [hxx], by simp⟩⟩
end
set_option maxRecDepth 100000 in
theorem lifted (os : Os) (started : os.Started) (H : Type) (enc : TypeId × Value → H) :
    ReturnsInHanded {} Try.checked os 10 .any (Rows.opsMemorySpec.pre6 enc Try.prog Try.f10 Rows.opsMemoryRow.domain false) (Rows.opsMemorySpec.post enc Try.prog Try.f10 false true false false) := by
  refine returnsInHanded_of_change_sized (C := Try.checked) own started (by kernel_rfl) Try.func10
    (ChangeSpec.witness6 (enc := enc) (C := Try.checked) false ⟨#[], #[.slice none 0 0, .agg #[.int .u64 0, .float .f64 0]], []⟩ 8 (by kernel_rfl) (by kernel_rfl) (by kernel_rfl) (by kernel_rfl)) ?_
  intro W base args ds gs before hval0 hW hcnd hsz0 _
  have hval : ∀ (j : Nat) t v, Try.f10.params[j]? = some t → args[j]? = some v → Value.okWide Try.prog W .any base t v := hval0
  have hW' := hW
  obtain ⟨p, q, hA0, hV, rfl, hfz, hnd⟩ := hW
  have hA : DataW.TrodAll enc Try.prog W 0 (fun _ => true) true Try.f10.params.toList args.toList ds p := hA0
  rw [Try.params10] at hA hval
  obtain ⟨v0, vs0, d0, ds0, p0, q0, hargs, rfl, rfl, h0, r0⟩ := trodAll_cons hA
  obtain ⟨v1, vs1, d1, ds1, p1, q1, rfl, rfl, rfl, h1, r1⟩ := trodAll_cons r0
  obtain ⟨rfl, rfl, rfl⟩ := trodAll_nil r1
  obtain rfl : args = #[v0, v1] := by cases args; simp_all
  obtain ⟨rfl, rfl⟩ := trodVars_none hV
  have lt0 : ∀ x ∈ p0, x.block < W.heap.size := by obtain ⟨m, hm⟩ := h0; exact DataW.trod_lt m _ _ _ hm
  have lt1 : ∀ x ∈ p1, x.block < W.heap.size := by obtain ⟨m, hm⟩ := h1; exact DataW.trod_lt m _ _ _ hm
  obtain ⟨a0, l0, c0, rfl⟩ := okWide_slice Try.underlying22 (hval 0 22 v0 rfl rfl)
  obtain ⟨r, rfl, hok⟩ := open_rec (hval 1 31 v1 rfl rfl)
  obtain ⟨m0, hm0⟩ := id h0
  obtain ⟨a, len, cap, rb, ro, f, e0, ha, hr, hd⟩ := open_stps_dat hm0
  cases e0
  have hln : l0 ≤ 6000000000000 := by
    rcases hd with h | ⟨el, sp, hd, hle⟩
    · omega
    · dsimp only at hd
      subst hd
      have hsz : (DataW.weightsEach Try.prog (Try.f10.params.toList ++ Rows.opsMemorySpec.plain.varTypes Try.prog) _).all (· ≤ reachBytes) = true := hsz0
      rw [Try.params10] at hsz
      have := sized_slice hsz (j := 0) (t := 22) (e := 40) rfl rfl Try.underlying22
      rw [show Try.prog.bytesOf 40 = 24 by kernel_rfl] at this
      simp only [reachBytes] at this
      omega
  clear hA0 hval0
  refine (mem_any a0 l0 c0 rb ro f r W hln ha hr hok).mono fun e W' ⟨he, bel⟩ => ?_
  subst he
  exact ⟨_, rfl, _, _, _, [], _, [], hW', trodAll_mk1 (shut_bool Try.underlying4 _),
    (trodAll_cons_mk (Below.trod laidOut (by kernel_rfl) (of_decide_eq_true (by kernel_rfl)) h0 bel lt0)
    (trodAll_cons_mk (Below.trod laidOut (by kernel_rfl) (of_decide_eq_true (by kernel_rfl)) h1 bel lt1) trodAll_mk0)), rfl, bel.frame _, fun h => by cases h⟩

theorem proved : Rows.OpsMemorySaid :=
  OpenClaim.holds_of_wide 10 Try.f10 rfl rfl rfl rfl rfl rfl rfl ⟨rfl, rfl, rfl, rfl, rfl⟩ rfl rfl rfl rfl rfl (by kernel_rfl) Try.func10 (by kernel_rfl)
    (of_decide_eq_true (by kernel_rfl)) (by unfold Func.isWrapper; first | (rw [if_pos (by decide +kernel)]; kernel_rfl) | (rw [if_neg (by decide +kernel)]; exact ⟨rfl, rfl⟩))
    (fun os started H enc _ => lifted os started H enc)
#print axioms proved
end Go.Proofs.Ytgcbjpdmnlanoaa.opsMemoryDone
