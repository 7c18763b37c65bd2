/- CellRow, where what it reads is of bulk at most 1048576: for every kind and rounds. (Without the bound it is false: a slice of more than 1099511627776 rounds brings the batch above what cell.Fit lets in.) -/
import Derived.Test.YtelofaceadlfmaaOpenSl
import Derived.Test.YtelofaceadlfmaaLawRow
import Derived.JoinedCond
namespace Go.Proofs.Ytelofaceadlfmaa
open Go.RowKit Go.ChangeShapes Go.WideShapes Go.Deep
open Fl (V Cl fitC known)
instance : Inhabited Rd := ⟨⟨⟨false, 0⟩, ⟨false, 0⟩, false, false⟩⟩
theorem bulk_pos {H : Type} (d : DataW H) : 1 ≤ Rows.uptoBulk d := by
  cases d with
  | lit l => cases l <;> simp [Rows.uptoBulk]
  | _ => simp [Rows.uptoBulk]
theorem bulk_len {H : Type} (l : List (DataW H)) : l.length ≤ Rows.uptoBulkAll l := by
  induction l with
  | nil => simp [Rows.uptoBulkAll]
  | cons d r ih =>
    have := bulk_pos d
    simp only [Rows.uptoBulkAll, List.length_cons]
    omega
section
variable {H : Type} {enc : TypeId × Value → H} {w : World} {spare : Nat → Bool} {held : Bool}
theorem open_round {fuel : Nat} {cs : List Value} {x : DataW H × List MemPlace} (h : DataW.trod enc Try.prog w 0 spare held fuel 51 cs = some x) :
    ∃ r : Rd, cs = [.bool r.part.has, .int .u64 r.part.bits, .bool r.wrong.has, .int .u64 r.wrong.bits, .bool r.fails, .bool r.miss] ∧ r.part.ok ∧ r.wrong.ok := by
  have hl := (trod_len Try.underlying51 h).trans (show Try.prog.cellsOf 51 = 6 by kernel_rfl)
  match cs, hl with
  | [c0, c1, c2, c3, c4, c5], _ =>
    obtain ⟨_, _, h0⟩ := trod_field Try.underlying51 h 0 rfl
    obtain ⟨_, _, h1⟩ := trod_field Try.underlying51 h 1 rfl
    obtain ⟨_, _, h2⟩ := trod_field Try.underlying51 h 2 rfl
    obtain ⟨_, _, h3⟩ := trod_field Try.underlying51 h 3 rfl
    rw [show Try.prog.cellsOf _ = 2 by kernel_rfl] at h0 h1
    rw [show Try.prog.cellsOf _ = 1 by kernel_rfl] at h2 h3
    obtain ⟨p, e0, hp⟩ := open_value h0
    obtain ⟨q, e1, hq⟩ := open_value h1
    obtain ⟨f, rfl⟩ := trod_b Try.underlying4 h2
    obtain ⟨m, rfl⟩ := trod_b Try.underlying4 h3
    cases e0
    cases e1
    exact ⟨⟨p, q, f, m⟩, rfl, hp, hq⟩
theorem open_rounds {fuel : Nat} {cs : List Value} {x : DataW H × List MemPlace} (h : DataW.trod enc Try.prog w 0 spare held fuel 47 cs = some x) :
    ∃ a len cap rb ro f, cs = [.slice a len cap] ∧ (0 < len → a = some ⟨rb, ro, none⟩) ∧ (0 < len → Rds w rb ro len f) ∧ len ≤ Rows.uptoBulk x.1 := by
  rcases open_slice Try.underlying47 h with ⟨h0, _⟩ | ⟨a, len, cap, m, n, D, Pl, rfl, _, hl, hm, hmm, hxx, hx⟩
  · exact ⟨_, _, _, 0, 0, fun _ => default, h0, fun h => absurd h (Nat.lt_irrefl 0), fun h => absurd h (Nat.lt_irrefl 0), Nat.zero_le _⟩
  have hbulk : len ≤ Rows.uptoBulk x.1 := by
    rw [hxx]
    have := bulk_len ((List.range len).map D)
    simp only [List.length_map, List.length_range] at this
    show len ≤ Rows.uptoBulk (.slice ((List.range len).map D) _)
    simp only [Rows.uptoBulk]
    omega
  rcases Nat.eq_zero_or_pos len with rfl | hp
  · exact ⟨_, _, _, 0, 0, fun _ => default, rfl, fun h => absurd h (Nat.lt_irrefl 0), fun h => absurd h (Nat.lt_irrefl 0), hbulk⟩
  rw [show Try.prog.cellsOf 51 = 6 by kernel_rfl] at hx
  have hlm : len ≤ m := by rw [hmm]; split <;> omega
  have hx' : ∀ i, i < len → ∃ r : Rd, (r.part.ok ∧ r.wrong.ok) ∧ w.cell? ⟨a.block, a.off + (i * 6 + 0), none⟩ = some (.bool r.part.has) ∧ w.cell? ⟨a.block, a.off + (i * 6 + 1), none⟩ = some (.int .u64 r.part.bits) ∧
      w.cell? ⟨a.block, a.off + (i * 6 + 2), none⟩ = some (.bool r.wrong.has) ∧ w.cell? ⟨a.block, a.off + (i * 6 + 3), none⟩ = some (.int .u64 r.wrong.bits) ∧ w.cell? ⟨a.block, a.off + (i * 6 + 4), none⟩ = some (.bool r.fails) ∧ w.cell? ⟨a.block, a.off + (i * 6 + 5), none⟩ = some (.bool r.miss) := fun i hi => by
    obtain ⟨cs, h1, h2⟩ := hx i (by omega)
    obtain ⟨p, rfl, hpk⟩ := open_round h2
    obtain ⟨_, _, h3⟩ := cells_at h1 (by decide)
    exact ⟨p, hpk, h3 0 (by decide), h3 1 (by decide), h3 2 (by decide), h3 3 (by decide), h3 4 (by decide), h3 5 (by decide)⟩
  obtain ⟨p, hP⟩ := choose_lt hx'
  obtain ⟨cs, h1, _⟩ := hx 0 (by omega)
  obtain ⟨hb, hs, _⟩ := cells_at h1 (by decide)
  obtain ⟨ab, ao, aspot⟩ := a
  obtain rfl : aspot = none := by
    rcases hs with h' | h'
    · exact absurd h' (by decide)
    · exact h'
  exact ⟨_, len, cap, ab, ao, p, rfl, fun _ => rfl, fun _ => ⟨hb, fun i hi => (hP i hi).1, fun i hi => (hP i hi).2.1, fun i hi => (hP i hi).2.2.1, fun i hi => (hP i hi).2.2.2.1, fun i hi => (hP i hi).2.2.2.2.1, fun i hi => (hP i hi).2.2.2.2.2.1, fun i hi => (hP i hi).2.2.2.2.2.2⟩, hbulk⟩
end

set_option maxRecDepth 100000 in
/-- an unknown kind -/
theorem row_unknown (k : Int) (s : Value) (w : World) (hk : known k = false) :
    Calls Try.prog 6 #[.int .i64 k, s] w fun e w' => e = .returned (.bool true) ∧ Below w.heap.size w w' := by
  have C1 := Lib.hid awake_any
  have c2 := known_any k
  rw [hk] at c2
  have C2 := Lib.hid c2
  have C3 := Lib.hid lsome_any
  have c4 := fun w => apply_arg k 0 ⟨false, 0⟩ ⟨false, 0⟩ 0 1 ⟨true, 1⟩ w (.inl hk)
  have C4 := Lib.hid c4
  clear c2 hk c4
  go_enter Try.func6, Try.ntmps6
  go_wp2_with fail
  refine (C1.out _).mono ?_
  rintro e w1 ⟨rfl, hb1⟩
  have p1 : Below w.heap.size w w1 := (by repeat' (first | with_reducible exact Below.refl _ _ | with_reducible assumption | with_reducible refine bel_drew ?_ | with_reducible refine bel_alloc ?_ _ | with_reducible refine bel_set ?_ ?_ _ | with_reducible refine bel_call ?_ (by assumption) | (dsimp only; omega) | (simp; done) | (simp; omega)))
  clear hb1
  go_wp2_with (go_at_call 20; refine (C2.out _).mono ?_; rintro e w' ⟨rfl, rfl⟩)
  refine (C3.out _ _).mono ?_
  rintro e w2 ⟨rfl, hb2⟩
  have p2 : Below w.heap.size w w2 := (by repeat' (first | with_reducible exact Below.refl _ _ | with_reducible assumption | with_reducible refine bel_drew ?_ | with_reducible refine bel_alloc ?_ _ | with_reducible refine bel_set ?_ ?_ _ | with_reducible refine bel_call ?_ (by assumption) | (dsimp only; omega) | (simp; done) | (simp; omega)))
  clear hb2 p1
  go_wp2_with fail
  refine (C4.out _).mono ?_
  rintro e w3 ⟨rfl, hb3⟩
  have p3 : Below w.heap.size w w3 := (by repeat' (first | with_reducible exact Below.refl _ _ | with_reducible assumption | with_reducible refine bel_drew ?_ | with_reducible refine bel_alloc ?_ _ | with_reducible refine bel_set ?_ ?_ _ | with_reducible refine bel_call ?_ (by assumption) | (dsimp only; omega) | (simp; done) | (simp; omega)))
  clear hb3 p2
  go_wp2_with fail
  go_ret
  exact ⟨rfl, (by repeat' (first | with_reducible exact Below.refl _ _ | with_reducible assumption | with_reducible refine bel_drew ?_ | with_reducible refine bel_alloc ?_ _ | with_reducible refine bel_set ?_ ?_ _ | with_reducible refine bel_call ?_ (by assumption) | (dsimp only; omega) | (simp; done) | (simp; omega)))⟩
theorem row_any (k : Int) (a : Option Addr) (len cap rb ro : Nat) (f : Nat → Rd) (w : World) (ha : 0 < len → a = some ⟨rb, ro, none⟩) (hz : len ≤ 1048576) (hr : 0 < len → Rds w rb ro len f) :
    Calls Try.prog 6 #[.int .i64 k, .slice a len cap] w fun e w' => e = .returned (.bool true) ∧ Below w.heap.size w w' := by
  cases hk : known k with
  | false => exact row_unknown k _ w hk
  | true => exact row_main k a len cap rb ro f w hk ha hz hr
end Go.Proofs.Ytelofaceadlfmaa
namespace Go.Proofs.Ytelofaceadlfmaa.cellRowDone
open Go.ChangeShapes Go.WideShapes Go.ChangeAt Go.RowKit
set_option maxRecDepth 100000 in
theorem lifted (os : Os) (started : os.Started) (H : Type) (enc : TypeId × Value → H) (F0 : Stop.Interp) :
    ReturnsInHanded {} Try.checked os 6 .any ((Rows.OpenSpec.upto Rows.cellRowSpec).pre6 enc Try.prog Try.f6 Rows.cellRowUptoRow.domain false) (((Rows.OpenSpec.upto Rows.cellRowSpec).at F0).post enc Try.prog Try.f6 false true false false) := by
  refine returnsInHanded_of_cond (C := Try.checked) (s := Rows.OpenSpec.upto Rows.cellRowSpec) (k := Rows.uptoSmall) rfl own started (by kernel_rfl) Try.func6
    (OpenSpec.witness (enc := enc) (C := Try.checked) (s := Rows.OpenSpec.upto Rows.cellRowSpec) (k := Rows.uptoSmall) rfl false ⟨#[], #[.int .i64 0, .slice none 0 0], []⟩ 8 (by kernel_rfl) (by kernel_rfl) (by kernel_rfl)
      (x := ([.lit (.int .i64 0), .nil], [], [])) (by kernel_rfl) (by kernel_rfl) (by kernel_rfl)) ?_
  intro W base args ds gs before hval0 hW hcnd hkk _
  have hval : ∀ (j : Nat) t v, Try.f6.params[j]? = some t → args[j]? = some v → Value.okWide Try.prog W .any base t v := hval0
  have hW' := hW
  obtain ⟨p, q, hA0, hV, rfl, hfz, hnd⟩ := hW
  have hA : DataW.TrodAll enc Try.prog W 0 (fun _ => true) true Try.f6.params.toList args.toList ds p := hA0
  rw [Try.params6] at hA hval
  obtain ⟨v0, vs0, d0, ds0, p0, q0, hargs, rfl, rfl, h0, r0⟩ := trodAll_cons hA
  obtain ⟨v1, vs1, d1, ds1, p1, q1, rfl, rfl, rfl, h1, r1⟩ := trodAll_cons r0
  obtain ⟨rfl, rfl, rfl⟩ := trodAll_nil r1
  obtain rfl : args = #[v0, v1] := by cases args; simp_all
  obtain ⟨rfl, rfl⟩ := trodVars_none hV
  have lt0 : ∀ x ∈ p0, x.block < W.heap.size := by obtain ⟨m, hm⟩ := h0; exact DataW.trod_lt m _ _ _ hm
  have lt1 : ∀ x ∈ p1, x.block < W.heap.size := by obtain ⟨m, hm⟩ := h1; exact DataW.trod_lt m _ _ _ hm
  obtain ⟨k, rfl, _⟩ := cell_i64 Try.underlying3 (plain_cell (by rw [Try.underlying3]) (hval 0 3 v0 rfl rfl))
  obtain ⟨a0, l0, c0, rfl⟩ := okWide_slice Try.underlying47 (hval 1 47 v1 rfl rfl)
  obtain ⟨m1, hm1⟩ := id h1
  obtain ⟨a, len, cap, rb, ro, f, e1, ha, hr, hbulk⟩ := open_rounds hm1
  cases e1
  have hz : l0 ≤ 1048576 := by
    have hz2 : Rows.uptoBulkAll ([d0, d1] ++ []) ≤ 1048576 := of_decide_eq_true hkk
    simp only [List.append_nil, Rows.uptoBulkAll] at hz2
    dsimp only at hbulk
    omega
  clear hA0 hval0 hkk hcnd
  refine (row_any k a0 l0 c0 rb ro f W ha hz hr).mono fun e W' ⟨he, bel⟩ => ?_
  subst he
  exact ⟨_, rfl, _, _, _, [], _, [], hW', trodAll_mk1 (shut_bool Try.underlying4 _),
    (trodAll_cons_mk (Below.trod laidOut (by kernel_rfl) (of_decide_eq_true (by kernel_rfl)) h0 bel lt0)
    (trodAll_cons_mk (Below.trod laidOut (by kernel_rfl) (of_decide_eq_true (by kernel_rfl)) h1 bel lt1) trodAll_mk0)), rfl, bel.frame _, fun h => by cases h⟩

theorem proved : Rows.CellRowUptoSaid :=
  OpenClaim.holds_of_cond 6 Try.f6 rfl rfl rfl rfl rfl rfl rfl ⟨rfl, rfl, rfl, rfl, rfl⟩ rfl rfl rfl rfl rfl (by kernel_rfl) Try.func6 (by kernel_rfl)
    (of_decide_eq_true (by kernel_rfl)) (by unfold Func.isWrapper; first | (rw [if_pos (by decide +kernel)]; kernel_rfl) | (rw [if_neg (by decide +kernel)]; exact ⟨rfl, rfl⟩))
    (fun os started H enc _ F0 => lifted os started H enc F0)
#print axioms proved
end Go.Proofs.Ytelofaceadlfmaa.cellRowDone
