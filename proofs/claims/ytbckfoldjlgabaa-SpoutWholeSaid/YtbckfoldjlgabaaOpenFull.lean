/- HELPERS: what comes in as a Full: a number, records, two lists of numbers. -/
import Derived.Test.YtbckfoldjlgabaaOpenInt
namespace Go.Proofs.Ytbckfoldjlgabaa
open Go.ChangeShapes Go.WideShapes Go.ChangeAt Go.RowKit Go.Deep
section
variable {H : Type} {enc : TypeId × Value → H} {w : World} {spare : Nat → Bool} {held : Bool}
theorem open_rcs_dat {fuel : Nat} {cs : List Value} {x : DataW H × List MemPlace} (h : DataW.trod enc Try.prog w 0 spare held fuel 22 cs = some x) :
    ∃ a len cap b o p, cs = [.slice a len cap] ∧ (0 < len → a = some ⟨b, o, none⟩) ∧ (0 < len → Rcs w b o len p) ∧ len ≤ cap ∧ cap ≤ maxLen ∧ (len = 0 ∨ ∃ elems spare, x.1 = .slice elems spare ∧ elems.length = len) := by
  rcases open_slice Try.underlying22 h with ⟨h0, _⟩ | ⟨a, len, cap, m, n, D, Pl, rfl, _, hl, hm, hmm, hxx, hx⟩
  · exact ⟨_, _, _, 0, 0, fun _ => ⟨0, 0⟩, h0, fun h => absurd h (Nat.lt_irrefl 0), fun h => absurd h (Nat.lt_irrefl 0), Nat.le_refl _, by unfold maxLen; omega, .inl rfl⟩
  rcases Nat.eq_zero_or_pos len with rfl | hp
  · exact ⟨_, _, _, 0, 0, fun _ => ⟨0, 0⟩, rfl, fun h => absurd h (Nat.lt_irrefl 0), fun h => absurd h (Nat.lt_irrefl 0), by omega, by omega, .inl rfl⟩
  rw [show Try.prog.cellsOf 66 = 2 by kernel_rfl] at hx
  have hlm : len ≤ m := by rw [hmm]; split <;> omega
  have hx' : ∀ i, i < len → ∃ o : Rc, o.ok ∧ w.cell? ⟨a.block, a.off + (i * 2 + 0), none⟩ = some (.int .u64 o.key) ∧ w.cell? ⟨a.block, a.off + (i * 2 + 1), none⟩ = some (.float .f64 o.val) := fun i hi => by
    obtain ⟨cs, h1, h2⟩ := hx i (by omega)
    obtain ⟨p, rfl, hpk⟩ := open_rc h2
    obtain ⟨_, _, h3⟩ := cells_at h1 (by decide)
    exact ⟨p, hpk, h3 0 (by decide), h3 1 (by decide)⟩
  obtain ⟨p, hP⟩ := choose_lt hx'
  obtain ⟨cs, h1, _⟩ := hx 0 (by omega)
  obtain ⟨hb, hs, _⟩ := cells_at h1 (by decide)
  obtain ⟨ab, ao, aspot⟩ := a
  obtain rfl : aspot = none := by
    rcases hs with h' | h'
    · exact absurd h' (by decide)
    · exact h'
  exact ⟨_, len, cap, ab, ao, p, rfl, fun _ => rfl, fun _ => ⟨hb, fun i hi => (hP i hi).1, fun i hi => (hP i hi).2.1, fun i hi => (hP i hi).2.2⟩, hl, hm, .inr ⟨_, _, by rw [hxx], by simp⟩⟩
end
theorem typesFull : Try.prog.cellTypes Try.prog.depth 25 = some [3, 22, 23, 23] := by kernel_rfl
set_option maxRecDepth 100000 in
/-- an argument that is a Full -/
theorem full_arg {H : Type} {enc : TypeId × Value → H} {W : World} {r : Reach} {base : Nat} {v : Value} {d : DataW H} {p : List MemPlace} (hok : Value.okWide Try.prog W r base 25 v) (h : DataW.Trod enc Try.prog W 0 (fun _ => true) true 25 v d p)
    (hsz : ∀ n, n ∈ d.weights Try.prog 25 → n ≤ 140737488351232) : ∃ z rv av ov rl al ol, v = .agg #[.int .i64 z, rv, av, ov] ∧ Recs W rv rl ∧ Ints W av al ∧ Ints W ov ol := by
  obtain ⟨cs, rfl, hl, hc⟩ := open_cells Try.underlying25 hok typesFull (by kernel_rfl)
  match cs, hl with
  | [c0, c1, c2, c3], _ =>
    obtain ⟨z, rfl, _⟩ := cell_int Try.underlying3 (hc 0 c0 _ rfl rfl)
    obtain ⟨m, hm⟩ := h
    obtain ⟨xs, n, _, hxe, _, hz, hx⟩ := DataW.trod_struct Try.underlying25 hm
    match xs, hz with
    | [x0, x1, x2, x3], _ =>
      have e1 : DataW.trod enc Try.prog W 0 (fun _ => true) true n 22 (List.take (Try.prog.cellsOf 22) [c1, c2, c3]) = some x1 := hx 1 _ rfl
      have e2 : DataW.trod enc Try.prog W 0 (fun _ => true) true n 23 (List.take (Try.prog.cellsOf 23) [c2, c3]) = some x2 := hx 2 _ rfl
      have e3 : DataW.trod enc Try.prog W 0 (fun _ => true) true n 23 (List.take (Try.prog.cellsOf 23) [c3]) = some x3 := hx 3 _ rfl
      rw [show Try.prog.cellsOf 22 = 1 by kernel_rfl] at e1
      rw [show Try.prog.cellsOf 23 = 1 by kernel_rfl] at e2 e3
      have e1 : DataW.trod enc Try.prog W 0 (fun _ => true) true n 22 [c1] = some x1 := e1
      have e2 : DataW.trod enc Try.prog W 0 (fun _ => true) true n 23 [c2] = some x2 := e2
      have e3 : DataW.trod enc Try.prog W 0 (fun _ => true) true n 23 [c3] = some x3 := e3
      obtain ⟨a1, n1, k1, b1, o1, p1, q1, ha1, hr1, hc1, hm1, hd1⟩ := open_rcs_dat e1
      obtain ⟨a2, n2, k2, b2, o2, p2, q2, ha2, hr2, hc2, hm2, hd2⟩ := open_ints_dat e2
      obtain ⟨a3, n3, k3, b3, o3, p3, q3, ha3, hr3, hc3, hm3, hd3⟩ := open_ints_dat e3
      have hde : d = .agg [x0.1, x1.1, x2.1, x3.1] := (Prod.mk.inj hxe).1
      have hw : ∀ (j : Nat) t y n, ([3, 22, 23, 23] : List TypeId)[j]? = some t → [x0.1, x1.1, x2.1, x3.1][j]? = some y → n ∈ y.weights Try.prog t → n ≤ 140737488351232 := fun j t y n ht hy hn => hsz n (by
        rw [hde]
        simp only [DataW.weights, Try.underlying25]
        exact DataW.weights_mem_each ht hy n hn)
      cases q1
      cases q2
      cases q3
      refine ⟨z, _, _, _, toL n1 p1, toL n2 p2, toL n3 p3, rfl, ⟨a1, n1, k1, b1, o1, p1, rfl, rfl, ha1, hr1, hc1, hm1, ?_⟩, ⟨a2, n2, k2, b2, o2, p2, rfl, rfl, ha2, hr2, hc2, hm2, ?_⟩, ⟨a3, n3, k3, b3, o3, p3, rfl, rfl, ha3, hr3, hc3, hm3, ?_⟩⟩
      · rcases hd1 with h | ⟨el, sp, hd, hle⟩
        · omega
        · have := hw 1 _ _ ((el.length + sp.length) * Try.prog.bytesOf 66) rfl rfl (by rw [hd]; simp [DataW.weights, Try.underlying22])
          rw [show Try.prog.bytesOf 66 = 16 by kernel_rfl] at this
          omega
      · rcases hd2 with h | ⟨el, sp, hd, hle⟩
        · omega
        · have := hw 2 _ _ ((el.length + sp.length) * Try.prog.bytesOf 3) rfl rfl (by rw [hd]; simp [DataW.weights, Try.underlying23])
          rw [show Try.prog.bytesOf 3 = 8 by kernel_rfl] at this
          omega
      · rcases hd3 with h | ⟨el, sp, hd, hle⟩
        · omega
        · have := hw 3 _ _ ((el.length + sp.length) * Try.prog.bytesOf 3) rfl rfl (by rw [hd]; simp [DataW.weights, Try.underlying23])
          rw [show Try.prog.bytesOf 3 = 8 by kernel_rfl] at this
          omega
end Go.Proofs.Ytbckfoldjlgabaa
