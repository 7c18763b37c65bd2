/- SpoutSteps, where what it reads is of bulk at most 1048576: for every row of ends. (Without the bound it is false: behind 1099511627776 batches Step refuses.) -/
import Derived.Test.YtbckfoldjlgabaaOpenTriple
import Derived.Test.YtbckfoldjlgabaaSqE
import Derived.JoinedCond
namespace Go.Proofs.Ytbckfoldjlgabaa
open Go.RowKit Go.ChangeShapes Go.WideShapes Go.Deep
theorem bulk_pos {H : Type} (d : DataW H) : 1 ≤ Rows.uptoBulk d := by
  cases d with
  | lit l => cases l <;> simp [Rows.uptoBulk]
  | _ => simp [Rows.uptoBulk]
theorem bulk_len {H : Type} (l : List (DataW H)) : l.length ≤ Rows.uptoBulkAll l := by
  induction l with
  | nil => simp [Rows.uptoBulkAll]
  | cons d r ih =>
    have := bulk_pos d
    simp only [Rows.uptoBulkAll, List.length_cons]
    omega
theorem bulk_mem {H : Type} {l : List (DataW H)} {d : DataW H} (h : d ∈ l) : Rows.uptoBulk d ≤ Rows.uptoBulkAll l := by
  induction l with
  | nil => cases h
  | cons c r ih =>
    simp only [Rows.uptoBulkAll]
    rcases List.mem_cons.1 h with rfl | h
    · omega
    · have := ih h; omega
section
variable {H : Type} {enc : TypeId × Value → H} {w : World} {spare : Nat → Bool} {held : Bool}
theorem open_lists {fuel : Nat} {cs : List Value} {x : DataW H × List MemPlace} (h : DataW.trod enc Try.prog w 0 spare held fuel 61 cs = some x) (hk : Rows.uptoBulk x.1 ≤ 1048576) :
    ∃ v ls, cs = [v] ∧ Lists w v ls := by
  rcases open_slice Try.underlying61 h with ⟨h0, _⟩ | ⟨a, len, cap, m, n, D, Pl, rfl, _, hl, hm, hmm, hxx, hx⟩
  · exact ⟨_, [], h0, none, 0, 0, 0, 0, fun _ => undef, rfl, rfl, fun h => absurd h (Nat.lt_irrefl 0), fun i h => absurd h (Nat.not_lt_zero _), by omega⟩
  have hbulk : Rows.uptoBulkAll ((List.range len).map D) ≤ 1048576 := by
    rw [hxx] at hk
    have hk : Rows.uptoBulk (.slice ((List.range len).map D) _) ≤ 1048576 := hk
    simp only [Rows.uptoBulk] at hk
    omega
  have hlen : len ≤ 1048576 := by
    have := bulk_len ((List.range len).map D)
    simp only [List.length_map, List.length_range] at this
    omega
  rcases Nat.eq_zero_or_pos len with rfl | hp
  · exact ⟨_, [], rfl, a, 0, cap, 0, 0, fun _ => undef, rfl, rfl, fun h => absurd h (Nat.lt_irrefl 0), fun i h => absurd h (Nat.not_lt_zero _), by omega⟩
  rw [show Try.prog.cellsOf 23 = 1 by kernel_rfl] at hx
  have hlm : len ≤ m := by rw [hmm]; split <;> omega
  have hx' : ∀ i, i < len → ∃ y : Value × List Int, w.cell? ⟨a.block, a.off + (i * 1 + 0), none⟩ = some y.1 ∧ Ints w y.1 y.2 := fun i hi => by
    obtain ⟨cs, h1, h2⟩ := hx i (by omega)
    obtain ⟨_, _, h3⟩ := cells_at h1 (by decide)
    obtain ⟨a2, n2, k2, b2, o2, p2, q2, ha2, hr2, hc2, hm2, hd2⟩ := open_ints_dat h2
    refine ⟨(.slice a2 n2 k2, toL n2 p2), ?_, a2, n2, k2, b2, o2, p2, rfl, rfl, ha2, hr2, hc2, hm2, ?_⟩
    · rw [h3 0 (by decide), q2]; rfl
    · rcases hd2 with h | ⟨el, sp, hd, hle⟩
      · omega
      · have h1 : Rows.uptoBulk (D i) ≤ Rows.uptoBulkAll ((List.range len).map D) := bulk_mem (List.mem_map.2 ⟨i, List.mem_range.2 hi, rfl⟩)
        have hd : D i = .slice el sp := hd
        rw [hd] at h1
        have h2 := bulk_len el
        simp only [Rows.uptoBulk] at h1
        omega
  haveI : Inhabited (Value × List Int) := ⟨(undef, [])⟩
  obtain ⟨p, hP⟩ := choose_lt hx'
  obtain ⟨cs, h1, _⟩ := hx 0 (by omega)
  obtain ⟨hb, hs, _⟩ := cells_at h1 (by decide)
  obtain ⟨ab, ao, aspot⟩ := a
  obtain rfl : aspot = none := by
    rcases hs with h' | h'
    · exact absurd h' (by decide)
    · exact h'
  refine ⟨_, toL len (fun i => (p i).2), rfl, some ⟨ab, ao, none⟩, len, cap, ab, ao, fun i => (p i).1, rfl, toL_len, fun _ => rfl, fun i hi => ⟨hb, ?_, ?_⟩, hlen⟩
  · have := (hP i hi).1; rwa [Nat.mul_one, Nat.add_zero] at this
  · rw [toL_getD hi]; exact (hP i hi).2
end
end Go.Proofs.Ytbckfoldjlgabaa
namespace Go.Proofs.Ytbckfoldjlgabaa.spoutStepsDone
open Go.ChangeShapes Go.WideShapes Go.ChangeAt Go.RowKit
set_option maxRecDepth 100000 in
theorem lifted (os : Os) (started : os.Started) (H : Type) (enc : TypeId × Value → H) (F0 : Stop.Interp) :
    ReturnsInHanded {} Try.checked os 8 .any ((Rows.OpenSpec.upto Rows.spoutStepsSpec).pre6 enc Try.prog Try.f8 Rows.spoutStepsUptoRow.domain false) (((Rows.OpenSpec.upto Rows.spoutStepsSpec).at F0).post enc Try.prog Try.f8 false true false false) := by
  refine returnsInHanded_of_cond (C := Try.checked) (s := Rows.OpenSpec.upto Rows.spoutStepsSpec) (k := Rows.uptoSmall) rfl own started (by kernel_rfl) Try.func8
    (OpenSpec.witness (enc := enc) (C := Try.checked) (s := Rows.OpenSpec.upto Rows.spoutStepsSpec) (k := Rows.uptoSmall) rfl false ⟨#[], #[.slice none 0 0, .int .i64 0], []⟩ 8 (by kernel_rfl) (by kernel_rfl) (by kernel_rfl)
      (x := ([.nil, .lit (.int .i64 0)], [], [])) (by kernel_rfl) (by kernel_rfl) (by kernel_rfl)) ?_
  intro W base args ds gs before hval0 hW hcnd hkk _
  have hval : ∀ (j : Nat) t v, Try.f8.params[j]? = some t → args[j]? = some v → Value.okWide Try.prog W .any base t v := hval0
  have hW' := hW
  obtain ⟨p, q, hA0, hV, rfl, hfz, hnd⟩ := hW
  have hA : DataW.TrodAll enc Try.prog W 0 (fun _ => true) true Try.f8.params.toList args.toList ds p := hA0
  rw [Try.params8] at hA hval
  obtain ⟨v0, vs0, d0, ds0, p0, q0, hargs, rfl, rfl, h0, r0⟩ := trodAll_cons hA
  obtain ⟨v1, vs1, d1, ds1, p1, q1, rfl, rfl, rfl, h1, r1⟩ := trodAll_cons r0
  obtain ⟨rfl, rfl, rfl⟩ := trodAll_nil r1
  obtain rfl : args = #[v0, v1] := by cases args; simp_all
  obtain ⟨rfl, rfl⟩ := trodVars_none hV
  have lt0 : ∀ x ∈ p0, x.block < W.heap.size := by obtain ⟨m, hm⟩ := h0; exact DataW.trod_lt m _ _ _ hm
  have lt1 : ∀ x ∈ p1, x.block < W.heap.size := by obtain ⟨m, hm⟩ := h1; exact DataW.trod_lt m _ _ _ hm
  obtain ⟨k, rfl, _⟩ := okWide_int Try.underlying3 (hval 1 3 v1 rfl rfl)
  obtain ⟨a0, l0, c0, rfl⟩ := okWide_slice Try.underlying61 (hval 0 61 v0 rfl rfl)
  obtain ⟨m1, hm1⟩ := id h0
  have hz2 : Rows.uptoBulkAll ([d0, d1] ++ []) ≤ 1048576 := of_decide_eq_true hkk
  simp only [List.append_nil, Rows.uptoBulkAll] at hz2
  obtain ⟨v, ls, e1, hL⟩ := open_lists hm1 (by dsimp only; omega)
  cases e1
  clear hA0 hval0 hkk hcnd
  refine (lsteps_any hL).mono fun e W' ⟨he, bel⟩ => ?_
  subst he
  exact ⟨_, rfl, _, _, _, [], _, [], hW', trodAll_mk1 (shut_bool Try.underlying4 _),
    (trodAll_cons_mk (Below.trod laidOut (by kernel_rfl) (of_decide_eq_true (by kernel_rfl)) h0 bel lt0)
    (trodAll_cons_mk (Below.trod laidOut (by kernel_rfl) (of_decide_eq_true (by kernel_rfl)) h1 bel lt1) trodAll_mk0)), rfl, bel.frame _, fun h => by cases h⟩

theorem proved : Rows.SpoutStepsUptoSaid :=
  OpenClaim.holds_of_cond 8 Try.f8 rfl rfl rfl rfl rfl rfl rfl ⟨rfl, rfl, rfl, rfl, rfl⟩ rfl rfl rfl rfl rfl (by kernel_rfl) Try.func8 (by kernel_rfl)
    (of_decide_eq_true (by kernel_rfl)) (by unfold Func.isWrapper; first | (rw [if_pos (by decide +kernel)]; kernel_rfl) | (rw [if_neg (by decide +kernel)]; exact ⟨rfl, rfl⟩))
    (fun os started H enc _ F0 => lifted os started H enc F0)
#print axioms proved
end Go.Proofs.Ytbckfoldjlgabaa.spoutStepsDone
