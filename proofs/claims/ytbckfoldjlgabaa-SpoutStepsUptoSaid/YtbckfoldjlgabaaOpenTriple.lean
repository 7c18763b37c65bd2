/- HELPERS: what comes in as a triple, as a list of lists of numbers. -/
import Derived.Test.YtbckfoldjlgabaaOpenInt
namespace Go.Proofs.Ytbckfoldjlgabaa
open Go.ChangeShapes Go.WideShapes Go.ChangeAt Go.RowKit Go.Deep
theorem okWide_intb {P : Program} {w : World} {r : Reach} {base : Nat} {t : TypeId} {v : Value} (ht : P.underlying t = some (.int .i64)) (h : Value.okWide P w r base t v) : ∃ n, v = .int .i64 n ∧ -9223372036854775808 ≤ n ∧ n ≤ 9223372036854775807 := by
  simp only [Value.okWide, ht] at h
  obtain ⟨n, rfl, h1, h2⟩ := cell_int ht h
  exact ⟨n, rfl, h1, h2⟩
theorem typesTriple : Try.prog.cellTypes Try.prog.depth 54 = some [3, 23, 23] := by kernel_rfl
set_option maxRecDepth 100000 in
/-- an argument that is a triple -/
theorem triple_arg {H : Type} {enc : TypeId × Value → H} {W : World} {r : Reach} {base : Nat} {v : Value} {d : DataW H} {p : List MemPlace} (hok : Value.okWide Try.prog W r base 54 v) (h : DataW.Trod enc Try.prog W 0 (fun _ => true) true 54 v d p)
    (hsz : ∀ n, n ∈ d.weights Try.prog 54 → n ≤ 140737488351232) : ∃ z av ov al ol, v = .agg #[.int .i64 z, av, ov] ∧ -9223372036854775808 ≤ z ∧ z ≤ 9223372036854775807 ∧ Ints W av al ∧ Ints W ov ol := by
  obtain ⟨cs, rfl, hl, hc⟩ := open_cells Try.underlying54 hok typesTriple (by kernel_rfl)
  match cs, hl with
  | [c0, c2, c3], _ =>
    obtain ⟨z, rfl, hz0, hz1⟩ := cell_int Try.underlying3 (hc 0 c0 _ rfl rfl)
    obtain ⟨m, hm⟩ := h
    obtain ⟨xs, n, _, hxe, _, hz, hx⟩ := DataW.trod_struct Try.underlying54 hm
    match xs, hz with
    | [x0, x2, x3], _ =>
      have e2 : DataW.trod enc Try.prog W 0 (fun _ => true) true n 23 (List.take (Try.prog.cellsOf 23) [c2, c3]) = some x2 := hx 1 _ rfl
      have e3 : DataW.trod enc Try.prog W 0 (fun _ => true) true n 23 (List.take (Try.prog.cellsOf 23) [c3]) = some x3 := hx 2 _ rfl
      rw [show Try.prog.cellsOf 23 = 1 by kernel_rfl] at e2 e3
      have e2 : DataW.trod enc Try.prog W 0 (fun _ => true) true n 23 [c2] = some x2 := e2
      have e3 : DataW.trod enc Try.prog W 0 (fun _ => true) true n 23 [c3] = some x3 := e3
      obtain ⟨a2, n2, k2, b2, o2, p2, q2, ha2, hr2, hc2, hm2, hd2⟩ := open_ints_dat e2
      obtain ⟨a3, n3, k3, b3, o3, p3, q3, ha3, hr3, hc3, hm3, hd3⟩ := open_ints_dat e3
      have hde : d = .agg [x0.1, x2.1, x3.1] := (Prod.mk.inj hxe).1
      have hw : ∀ (j : Nat) t y n, ([3, 23, 23] : List TypeId)[j]? = some t → [x0.1, x2.1, x3.1][j]? = some y → n ∈ y.weights Try.prog t → n ≤ 140737488351232 := fun j t y n ht hy hn => hsz n (by
        rw [hde]
        simp only [DataW.weights, Try.underlying54]
        exact DataW.weights_mem_each ht hy n hn)
      cases q2
      cases q3
      refine ⟨z, _, _, toL n2 p2, toL n3 p3, rfl, hz0, hz1, ⟨a2, n2, k2, b2, o2, p2, rfl, rfl, ha2, hr2, hc2, hm2, ?_⟩, ⟨a3, n3, k3, b3, o3, p3, rfl, rfl, ha3, hr3, hc3, hm3, ?_⟩⟩
      · rcases hd2 with h | ⟨el, sp, hd, hle⟩
        · omega
        · have := hw 1 _ _ ((el.length + sp.length) * Try.prog.bytesOf 3) rfl rfl (by rw [hd]; simp [DataW.weights, Try.underlying23])
          rw [show Try.prog.bytesOf 3 = 8 by kernel_rfl] at this
          omega
      · rcases hd3 with h | ⟨el, sp, hd, hle⟩
        · omega
        · have := hw 2 _ _ ((el.length + sp.length) * Try.prog.bytesOf 3) rfl rfl (by rw [hd]; simp [DataW.weights, Try.underlying23])
          rw [show Try.prog.bytesOf 3 = 8 by kernel_rfl] at this
          omega
end Go.Proofs.Ytbckfoldjlgabaa
