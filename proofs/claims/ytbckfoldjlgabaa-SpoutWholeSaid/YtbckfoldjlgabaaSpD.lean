/- WALKS of law07: lists of numbers and of records, compared. HELPERS and WALKS of law07: appends in general; clones. WALKS of law07: a source, read. WALKS of law07: check, between. -/
import Derived.Test.YtbckfoldjlgabaaOpsL
import Derived.Test.YtbckfoldjlgabaaOpenOp
import Derived.Test.YtbckfoldjlgabaaSlice
import Derived.Test.YtbckfoldjlgabaaSetC
import Derived.Test.YtbckfoldjlgabaaRegionV
namespace Go.Proofs.Ytbckfoldjlgabaa
open Go.RowKit
open Fl (nan key canon)
/-- the list of n answers -/
def toL {α : Type} (n : Nat) (p : Nat → α) : List α := (List.range n).map p
section
variable {α : Type} {n n' : Nat} {p p' : Nat → α}
theorem toL_len : (toL n p).length = n := by simp [toL]
theorem toL_get {i : Nat} (h : i < n) : (toL n p)[i]? = some (p i) := by simp [toL, h]
theorem toL_inj : toL n p = toL n' p' ↔ n = n' ∧ ∀ i, i < n → p i = p' i := by
  constructor
  · intro h
    have hn : n = n' := by have := congrArg List.length h; rwa [toL_len, toL_len] at this
    refine ⟨hn, fun i hi => ?_⟩
    have := congrArg (fun l => l[i]?) h
    simp only [toL_get hi, toL_get (n := n') (p := p') (hn ▸ hi)] at this
    exact Option.some.inj this
  · rintro ⟨rfl, h⟩
    unfold toL
    exact List.map_congr_left fun i hi => h i (List.mem_range.1 hi)
theorem toL_of (d : α) (l : List α) : l = toL l.length (fun i => l.getD i d) := by
  apply List.ext_getElem?
  intro i
  by_cases h : i < l.length
  · rw [toL_get h, List.getElem?_eq_getElem h]; simp [h]
  · rw [List.getElem?_eq_none (by omega), List.getElem?_eq_none (by rw [toL_len]; omega)]
theorem toL_getD {i : Nat} {d : α} (h : i < n) : (toL n p).getD i d = p i := by rw [List.getD_eq_getElem?_getD, toL_get h]; rfl
theorem toL_congr (h : ∀ i, i < n → p i = p' i) : toL n p = toL n p' := toL_inj.2 ⟨rfl, h⟩
end
/-- the same list -/
def eqI (l l' : List Int) : Bool := decide (l = l')
theorem eqI_toL {n n' : Nat} {p p' : Nat → Int} : eqI (toL n p) (toL n' p') = decide (n = n' ∧ ∀ i, i < n → p i = p' i) := decide_eq_decide.2 toL_inj
deriving instance DecidableEq for Rc
def eqR (l l' : List Rc) : Bool := decide (l = l')
theorem eqR_toL {n n' : Nat} {p p' : Nat → Rc} : eqR (toL n p) (toL n' p') = decide (n = n' ∧ ∀ i, i < n → p i = p' i) := decide_eq_decide.2 toL_inj
/-- no number of the first lies ahead of the second's -/
def fwd (l l' : List Int) : Bool := decide (l.length = l'.length ∧ ∀ i, i < l.length → l.getD i 0 ≤ l'.getD i 0)
theorem fwd_toL {n n' : Nat} {p p' : Nat → Int} : fwd (toL n p) (toL n' p') = decide (n = n' ∧ ∀ i, i < n → p i ≤ p' i) := by
  unfold fwd
  rw [decide_eq_decide, toL_len, toL_len]
  constructor
  · rintro ⟨rfl, h⟩
    exact ⟨rfl, fun i hi => by have := h i hi; rwa [toL_getD hi, toL_getD hi] at this⟩
  · rintro ⟨rfl, h⟩
    exact ⟨rfl, fun i hi => by rw [toL_getD hi, toL_getD hi]; exact h i hi⟩
/-- numbers lie there -/
structure Nums (w : World) (b o n : Nat) (p : Nat → Int) : Prop where
  lt : b < w.heap.size
  ok : ∀ i, i < n → -9223372036854775808 ≤ p i ∧ p i ≤ 9223372036854775807
  c : ∀ i, i < n → w.cell? ⟨b, o + i, none⟩ = some (.int .i64 (p i))
theorem Nums.keep {w w' : World} {b o n : Nat} {p : Nat → Int} (h : Nums w b o n p) {N : Nat} (hb : Below N w w') (hn : b < N) : Nums w' b o n p :=
  ⟨Nat.lt_of_lt_of_le h.lt hb.size, h.ok, fun i hi => (hb.cell (p := ⟨b, o + i, none⟩) hn).trans (h.c i hi)⟩
theorem Rcs.keep {w w' : World} {b o n : Nat} {p : Nat → Rc} (h : Rcs w b o n p) {N : Nat} (hb : Below N w w') (hn : b < N) : Rcs w' b o n p :=
  ⟨Nat.lt_of_lt_of_le h.lt hb.size, h.ok, fun i hi => (hb.cell (p := ⟨b, o + (i * 2 + 0), none⟩) hn).trans (h.c0 i hi), fun i hi => (hb.cell (p := ⟨b, o + (i * 2 + 1), none⟩) hn).trans (h.c1 i hi)⟩
/-- v is a slice of these numbers -/
def Ints (w : World) (v : Value) (l : List Int) : Prop :=
  ∃ a n cap b o p, v = .slice a n cap ∧ l = toL n p ∧ (0 < n → a = some ⟨b, o, none⟩) ∧ (0 < n → Nums w b o n p) ∧ n ≤ cap ∧ cap ≤ maxLen ∧ n ≤ 17592186043904
/-- v is a slice of these records -/
def Recs (w : World) (v : Value) (l : List Rc) : Prop :=
  ∃ a n cap b o p, v = .slice a n cap ∧ l = toL n p ∧ (0 < n → a = some ⟨b, o, none⟩) ∧ (0 < n → Rcs w b o n p) ∧ n ≤ cap ∧ cap ≤ maxLen ∧ n ≤ 8796093021952
theorem Ints.keep {w w' : World} {v : Value} {l : List Int} (h : Ints w v l) (hb : Below w.heap.size w w') : Ints w' v l := by
  obtain ⟨a, n, cap, b, o, p, h1, h2, h3, h4, h5⟩ := h
  exact ⟨a, n, cap, b, o, p, h1, h2, h3, fun h => (h4 h).keep hb (h4 h).lt, h5⟩
theorem Recs.keep {w w' : World} {v : Value} {l : List Rc} (h : Recs w v l) (hb : Below w.heap.size w w') : Recs w' v l := by
  obtain ⟨a, n, cap, b, o, p, h1, h2, h3, h4, h5⟩ := h
  exact ⟨a, n, cap, b, o, p, h1, h2, h3, fun h => (h4 h).keep hb (h4 h).lt, h5⟩
theorem Ints.nil (w : World) : Ints w (.slice none 0 0) [] := ⟨none, 0, 0, 0, 0, fun _ => 0, rfl, rfl, fun h => absurd h (Nat.lt_irrefl _), fun h => absurd h (Nat.lt_irrefl _), Nat.le_refl _, by unfold maxLen; omega, by omega⟩
theorem Recs.nil (w : World) : Recs w (.slice none 0 0) [] := ⟨none, 0, 0, 0, 0, fun _ => ⟨0, 0⟩, rfl, rfl, fun h => absurd h (Nat.lt_irrefl _), fun h => absurd h (Nat.lt_irrefl _), Nat.le_refl _, by unfold maxLen; omega, by omega⟩
theorem cast_ne {n n' : Nat} (h : n ≠ n') : ((n : Int) != (n' : Int)) = true := by simp; omega
theorem cast_eq (n : Nat) : ((n : Int) != (n : Int)) = false := by simp
set_option maxRecDepth 100000 in
set_option maxHeartbeats 4000000 in
theorem ints_any {v v' : Value} {l l' : List Int} (w : World) (h : Ints w v l) (h' : Ints w v' l') :
    Calls Try.prog 14 #[v, v'] w fun e w' => e = .returned (.bool (eqI l l')) ∧ Below w.heap.size w w' := by
  obtain ⟨a, n, cap, b, o, p, rfl, rfl, ha, hr, hc, hm⟩ := h
  obtain ⟨a', n', cap', b', o', p', rfl, rfl, ha', hr', hc', hm'⟩ := h'
  obtain ⟨T, hT⟩ : ∃ T, eqI (toL n p) (toL n' p') = T := ⟨_, rfl⟩
  rw [hT]
  rw [eqI_toL] at hT
  have HT := Lib.hid hT
  have HR := Lib.hid hr
  have HA := Lib.hid ha
  have HR' := Lib.hid hr'
  have HA' := Lib.hid ha'
  have HL : Hid (n ≤ 9223372036854775807) := Lib.hid (by unfold maxLen at hm; omega)
  clear hr ha hr' ha' hc hm hc' hm' hT
  by_cases hnn : n = n'
  · subst hnn
    have hE := cast_eq n
    go_enter Try.func14, Try.ntmps14
    go_wp2_with fail
    go_loopg [5] n (fun g s5 wr => ∃ (i : Nat), i ≤ n ∧ g = n - i ∧ s5 = .int .i64 i ∧ (∀ j, j < i → p j = p' j) ∧ Below w.heap.size w wr)
    case atStart => exact ⟨0, Nat.zero_le _, rfl, rfl, fun j hj => absurd hj (Nat.not_lt_zero _), Below.refl _ _⟩
    case round =>
      obtain ⟨i, hi, rfl, rfl, hal, q⟩ := hrel
      by_cases hlt : i < n
      · obtain rfl := HA.out (by omega)
        obtain rfl := HA'.out (by omega)
        have hz2 : (i : Int) < (n : Int) := by omega
        have hw1 : IntKind.i64.wrap ((i : Int) + 1) = (i : Int) + 1 := Go.IntWalk.i64_in _ (by have := HL.out; omega)
        have r1 := HR.out (by omega)
        have r2 := HR'.out (by omega)
        have x0 : wr.cell? ⟨b, o + i, none⟩ = some (.int .i64 (p i)) := (q.cell (p := ⟨b, o + i, none⟩) r1.lt).trans (r1.c i hlt)
        have y0 : wr.cell? ⟨b', o' + i, none⟩ = some (.int .i64 (p' i)) := (q.cell (p := ⟨b', o' + i, none⟩) r2.lt).trans (r2.c i hlt)
        have z1 : b < wr.heap.size := Nat.lt_of_lt_of_le r1.lt q.size
        have z2 : b' < wr.heap.size := Nat.lt_of_lt_of_le r2.lt q.size
        clear r1 r2 HR HR' HA HA'
        by_cases hpp : p i = p' i
        · rw [← hpp] at y0
          have hE1 : (p i != p i) = false := by simp
          have HP := Lib.hid hpp
          clear hpp
          go_wp2_with fail
          refine wp_region_below (by kernel_rfl) (by kernel_rfl) ?_
          iterate 9 (first | (refine lex_skip (by rfl) (fun _ _ _ _ h => h) ?_; simp only [Act.put, List.setIfInBounds_toArray, List.set_cons_zero, List.set_cons_succ]) | (refine lex_op (by rfl) ?_; apply Exists.intro; refine ⟨?_, ?_⟩; ((intro _ _ _ _ hT; obtain ⟨hc, hf⟩ := bcell hT; go_simp; first | exact rfl | fail)); simp only [Act.put, List.setIfInBounds_toArray, List.set_cons_zero, List.set_cons_succ]))
          refine lex_nil ?_
          intro w2 bel2
          have p2 : Below w.heap.size w w2 := (by repeat' (first | with_reducible exact Below.refl _ _ | with_reducible assumption | with_reducible refine bel_drew ?_ | with_reducible refine bel_alloc ?_ _ | with_reducible refine bel_set ?_ ?_ _ | with_reducible refine bel_call ?_ (by assumption) | (dsimp only; omega) | (simp; done) | (simp; omega)))
          clear x0 y0 bel2 z1 z2
          go_wp2_with fail
          go_roundg (n - (i + 1))
          case measure => omega
          case rel => exact ⟨i + 1, hlt, rfl, (by first | rfl | simp), fun j hj => by
            rcases Nat.lt_or_ge j i with h1 | h1
            · exact hal j h1
            · obtain rfl : j = i := by omega
              exact HP.out, p2⟩
        · have hE1 : (p i != p' i) = true := by simpa using hpp
          have HP := Lib.hid hpp
          clear hpp
          go_wp2_with fail
          refine wp_region_below (by kernel_rfl) (by kernel_rfl) ?_
          iterate 9 (first | (refine lex_skip (by rfl) (fun _ _ _ _ h => h) ?_; simp only [Act.put, List.setIfInBounds_toArray, List.set_cons_zero, List.set_cons_succ]) | (refine lex_op (by rfl) ?_; apply Exists.intro; refine ⟨?_, ?_⟩; ((intro _ _ _ _ hT; obtain ⟨hc, hf⟩ := bcell hT; go_simp; first | exact rfl | fail)); simp only [Act.put, List.setIfInBounds_toArray, List.set_cons_zero, List.set_cons_succ]))
          refine lex_nil ?_
          intro w2 bel2
          have p2 : Below w.heap.size w w2 := (by repeat' (first | with_reducible exact Below.refl _ _ | with_reducible assumption | with_reducible refine bel_drew ?_ | with_reducible refine bel_alloc ?_ _ | with_reducible refine bel_set ?_ ?_ _ | with_reducible refine bel_call ?_ (by assumption) | (dsimp only; omega) | (simp; done) | (simp; omega)))
          clear x0 y0 bel2 z1 z2
          go_wp2_with fail
          go_ret
          exact ⟨by rw [show T = false from HT.out.symm.trans (decide_eq_false (fun h => HP.out (h.2 i hlt)))]; rfl, p2⟩
      · have hz2 : ¬ ((i : Int) < (n : Int)) := by omega
        go_wp2_with fail
        go_ret
        exact ⟨by rw [show T = true from HT.out.symm.trans (decide_eq_true ⟨trivial, fun j hj => hal j (by omega)⟩)]; rfl, q⟩
  · have hE := cast_ne hnn
    obtain rfl : T = false := HT.out.symm.trans (decide_eq_false (fun h => hnn h.1))
    go_enter Try.func14, Try.ntmps14
    go_wp2_with fail
    go_ret
    exact ⟨rfl, Below.refl _ _⟩
set_option maxRecDepth 100000 in
set_option maxHeartbeats 4000000 in
theorem records_any {v v' : Value} {l l' : List Rc} (w : World) (h : Recs w v l) (h' : Recs w v' l') :
    Calls Try.prog 15 #[v, v'] w fun e w' => e = .returned (.bool (eqR l l')) ∧ Below w.heap.size w w' := by
  obtain ⟨a, n, cap, b, o, p, rfl, rfl, ha, hr, hc, hm⟩ := h
  obtain ⟨a', n', cap', b', o', p', rfl, rfl, ha', hr', hc', hm'⟩ := h'
  obtain ⟨T, hT⟩ : ∃ T, eqR (toL n p) (toL n' p') = T := ⟨_, rfl⟩
  rw [hT]
  rw [eqR_toL] at hT
  have HT := Lib.hid hT
  have HR := Lib.hid hr
  have HA := Lib.hid ha
  have HR' := Lib.hid hr'
  have HA' := Lib.hid ha'
  have HL : Hid (n ≤ 9223372036854775807) := Lib.hid (by unfold maxLen at hm; omega)
  clear hr ha hr' ha' hc hm hc' hm' hT
  by_cases hnn : n = n'
  · subst hnn
    have hE := cast_eq n
    go_enter Try.func15, Try.ntmps15
    go_wp2_with fail
    go_loopg [5] n (fun g s5 wr => ∃ (i : Nat), i ≤ n ∧ g = n - i ∧ s5 = .int .i64 i ∧ (∀ j, j < i → p j = p' j) ∧ Below w.heap.size w wr)
    case atStart => exact ⟨0, Nat.zero_le _, rfl, rfl, fun j hj => absurd hj (Nat.not_lt_zero _), Below.refl _ _⟩
    case round =>
      obtain ⟨i, hi, rfl, rfl, hal, q⟩ := hrel
      by_cases hlt : i < n
      · obtain rfl := HA.out (by omega)
        obtain rfl := HA'.out (by omega)
        have hz2 : (i : Int) < (n : Int) := by omega
        have hw1 : IntKind.i64.wrap ((i : Int) + 1) = (i : Int) + 1 := Go.IntWalk.i64_in _ (by have := HL.out; omega)
        have r1 := HR.out (by omega)
        have r2 := HR'.out (by omega)
        have x0 : wr.cell? ⟨b, o + i * 2, none⟩ = some (.int .u64 (p i).key) := (q.cell (p := ⟨b, o + (i * 2 + 0), none⟩) r1.lt).trans (r1.c0 i hlt)
        have x1 : wr.cell? ⟨b, o + i * 2 + 1, none⟩ = some (.float .f64 (p i).val) := (q.cell (p := ⟨b, o + (i * 2 + 1), none⟩) r1.lt).trans (r1.c1 i hlt)
        have y0 : wr.cell? ⟨b', o' + i * 2, none⟩ = some (.int .u64 (p' i).key) := (q.cell (p := ⟨b', o' + (i * 2 + 0), none⟩) r2.lt).trans (r2.c0 i hlt)
        have y1 : wr.cell? ⟨b', o' + i * 2 + 1, none⟩ = some (.float .f64 (p' i).val) := (q.cell (p := ⟨b', o' + (i * 2 + 1), none⟩) r2.lt).trans (r2.c1 i hlt)
        have z1 : b < wr.heap.size := Nat.lt_of_lt_of_le r1.lt q.size
        have z2 : b' < wr.heap.size := Nat.lt_of_lt_of_le r2.lt q.size
        clear r1 r2 HR HR' HA HA'
        have C1 := Lib.hid (fun w => rsame_any (p i).val (p' i).val w)
        by_cases hpp : p i = p' i
        · rw [← hpp] at y0 y1 C1
          rw [decide_eq_true rfl] at C1
          have hE1 : ((p i).key != (p i).key) = false := by simp
          have HP := Lib.hid hpp
          clear hpp
          go_wp2_with fail
          refine wp_region_below (by kernel_rfl) (by kernel_rfl) ?_
          iterate 25 (first | (refine lex_skip (by rfl) (fun _ _ _ _ h => h) ?_; simp only [Act.put, List.setIfInBounds_toArray, List.set_cons_zero, List.set_cons_succ]) | (refine lex_op (by rfl) ?_; apply Exists.intro; refine ⟨?_, ?_⟩; ((intro _ _ _ _ hT; obtain ⟨hc, hf⟩ := bcell hT; go_simp; first | exact rfl | exact call_same hT (C1.out _))); simp only [Act.put, List.setIfInBounds_toArray, List.set_cons_zero, List.set_cons_succ]))
          refine lex_nil ?_
          intro w2 bel2
          have p2 : Below w.heap.size w w2 := (by repeat' (first | with_reducible exact Below.refl _ _ | with_reducible assumption | with_reducible refine bel_drew ?_ | with_reducible refine bel_alloc ?_ _ | with_reducible refine bel_set ?_ ?_ _ | with_reducible refine bel_call ?_ (by assumption) | (dsimp only; omega) | (simp; done) | (simp; omega)))
          clear x0 x1 y0 y1 bel2 z1 z2
          go_wp2_with fail
          go_roundg (n - (i + 1))
          case measure => omega
          case rel => exact ⟨i + 1, hlt, rfl, (by first | rfl | simp), fun j hj => by
            rcases Nat.lt_or_ge j i with h1 | h1
            · exact hal j h1
            · obtain rfl : j = i := by omega
              exact HP.out, p2⟩
        · by_cases hkk : (p i).key = (p' i).key
          · rw [decide_eq_false (fun h => hpp (by cases hp : p i; cases hq : p' i; rw [hp, hq] at hkk h; cases hkk; cases h; rfl))] at C1
            rw [← hkk] at y0
            have hE1 : ((p i).key != (p i).key) = false := by simp
            have HP := Lib.hid hpp
            clear hpp
            go_wp2_with fail
            refine wp_region_below (by kernel_rfl) (by kernel_rfl) ?_
            iterate 25 (first | (refine lex_skip (by rfl) (fun _ _ _ _ h => h) ?_; simp only [Act.put, List.setIfInBounds_toArray, List.set_cons_zero, List.set_cons_succ]) | (refine lex_op (by rfl) ?_; apply Exists.intro; refine ⟨?_, ?_⟩; ((intro _ _ _ _ hT; obtain ⟨hc, hf⟩ := bcell hT; go_simp; first | exact rfl | exact call_same hT (C1.out _))); simp only [Act.put, List.setIfInBounds_toArray, List.set_cons_zero, List.set_cons_succ]))
            refine lex_nil ?_
            intro w2 bel2
            have p2 : Below w.heap.size w w2 := (by repeat' (first | with_reducible exact Below.refl _ _ | with_reducible assumption | with_reducible refine bel_drew ?_ | with_reducible refine bel_alloc ?_ _ | with_reducible refine bel_set ?_ ?_ _ | with_reducible refine bel_call ?_ (by assumption) | (dsimp only; omega) | (simp; done) | (simp; omega)))
            clear x0 x1 y0 y1 bel2 z1 z2
            go_wp2_with fail
            go_ret
            exact ⟨by rw [show T = false from HT.out.symm.trans (decide_eq_false (fun h => HP.out (h.2 i hlt)))]; rfl, p2⟩
          · have hE1 : ((p i).key != (p' i).key) = true := by simpa using hkk
            have HP := Lib.hid hpp
            clear hpp
            go_wp2_with fail
            refine wp_region_below (by kernel_rfl) (by kernel_rfl) ?_
            iterate 25 (first | (refine lex_skip (by rfl) (fun _ _ _ _ h => h) ?_; simp only [Act.put, List.setIfInBounds_toArray, List.set_cons_zero, List.set_cons_succ]) | (refine lex_op (by rfl) ?_; apply Exists.intro; refine ⟨?_, ?_⟩; ((intro _ _ _ _ hT; obtain ⟨hc, hf⟩ := bcell hT; go_simp; first | exact rfl | exact call_same hT (C1.out _))); simp only [Act.put, List.setIfInBounds_toArray, List.set_cons_zero, List.set_cons_succ]))
            refine lex_nil ?_
            intro w2 bel2
            have p2 : Below w.heap.size w w2 := (by repeat' (first | with_reducible exact Below.refl _ _ | with_reducible assumption | with_reducible refine bel_drew ?_ | with_reducible refine bel_alloc ?_ _ | with_reducible refine bel_set ?_ ?_ _ | with_reducible refine bel_call ?_ (by assumption) | (dsimp only; omega) | (simp; done) | (simp; omega)))
            clear x0 x1 y0 y1 bel2 z1 z2
            go_wp2_with fail
            go_ret
            exact ⟨by rw [show T = false from HT.out.symm.trans (decide_eq_false (fun h => HP.out (h.2 i hlt)))]; rfl, p2⟩
      · have hz2 : ¬ ((i : Int) < (n : Int)) := by omega
        go_wp2_with fail
        go_ret
        exact ⟨by rw [show T = true from HT.out.symm.trans (decide_eq_true ⟨trivial, fun j hj => hal j (by omega)⟩)]; rfl, q⟩
  · have hE := cast_ne hnn
    obtain rfl : T = false := HT.out.symm.trans (decide_eq_false (fun h => hnn h.1))
    go_enter Try.func15, Try.ntmps15
    go_wp2_with fail
    go_ret
    exact ⟨rfl, Below.refl _ _⟩
set_option maxRecDepth 100000 in
set_option maxHeartbeats 4000000 in
theorem forward_any {v v' : Value} {l l' : List Int} (w : World) (h : Ints w v l) (h' : Ints w v' l') :
    Calls Try.prog 16 #[v, v'] w fun e w' => e = .returned (.bool (fwd l l')) ∧ Below w.heap.size w w' := by
  obtain ⟨a, n, cap, b, o, p, rfl, rfl, ha, hr, hc, hm⟩ := h
  obtain ⟨a', n', cap', b', o', p', rfl, rfl, ha', hr', hc', hm'⟩ := h'
  obtain ⟨T, hT⟩ : ∃ T, fwd (toL n p) (toL n' p') = T := ⟨_, rfl⟩
  rw [hT]
  rw [fwd_toL] at hT
  have HT := Lib.hid hT
  have HR := Lib.hid hr
  have HA := Lib.hid ha
  have HR' := Lib.hid hr'
  have HA' := Lib.hid ha'
  have HL : Hid (n ≤ 9223372036854775807) := Lib.hid (by unfold maxLen at hm; omega)
  clear hr ha hr' ha' hc hm hc' hm' hT
  by_cases hnn : n = n'
  · subst hnn
    have hE := cast_eq n
    go_enter Try.func16, Try.ntmps16
    go_wp2_with fail
    go_loopg [14] n (fun g s5 wr => ∃ (i : Nat), i ≤ n ∧ g = n - i ∧ s5 = .int .i64 i ∧ (∀ j, j < i → p j ≤ p' j) ∧ Below w.heap.size w wr)
    case atStart => exact ⟨0, Nat.zero_le _, rfl, rfl, fun j hj => absurd hj (Nat.not_lt_zero _), Below.refl _ _⟩
    case round =>
      obtain ⟨i, hi, rfl, rfl, hal, q⟩ := hrel
      by_cases hlt : i < n
      · obtain rfl := HA.out (by omega)
        obtain rfl := HA'.out (by omega)
        have hz2 : (i : Int) < (n : Int) := by omega
        have hw1 : IntKind.i64.wrap ((i : Int) + 1) = (i : Int) + 1 := Go.IntWalk.i64_in _ (by have := HL.out; omega)
        have r1 := HR.out (by omega)
        have r2 := HR'.out (by omega)
        have x0 : wr.cell? ⟨b, o + i, none⟩ = some (.int .i64 (p i)) := (q.cell (p := ⟨b, o + i, none⟩) r1.lt).trans (r1.c i hlt)
        have y0 : wr.cell? ⟨b', o' + i, none⟩ = some (.int .i64 (p' i)) := (q.cell (p := ⟨b', o' + i, none⟩) r2.lt).trans (r2.c i hlt)
        have z1 : b < wr.heap.size := Nat.lt_of_lt_of_le r1.lt q.size
        have z2 : b' < wr.heap.size := Nat.lt_of_lt_of_le r2.lt q.size
        clear r1 r2 HR HR' HA HA'
        by_cases hpp : p i ≤ p' i
        · have hE1 : ¬ (p' i < p i) := by omega
          have HP := Lib.hid hpp
          clear hpp
          have p2 := q
          go_wp2_with fail
          go_roundg (n - (i + 1))
          case measure => omega
          case rel => exact ⟨i + 1, hlt, rfl, (by first | rfl | simp), fun j hj => by
            rcases Nat.lt_or_ge j i with h1 | h1
            · exact hal j h1
            · obtain rfl : j = i := by omega
              exact (by have := HP.out; omega), p2⟩
        · have hE1 : p' i < p i := by omega
          have HP := Lib.hid hpp
          clear hpp
          have p2 := q
          go_wp2_with fail
          go_ret
          exact ⟨by rw [show T = false from HT.out.symm.trans (decide_eq_false (fun h => absurd (h.2 i hlt) (by have := HP.out; omega)))]; rfl, p2⟩
      · have hz2 : ¬ ((i : Int) < (n : Int)) := by omega
        go_wp2_with fail
        go_ret
        exact ⟨by rw [show T = true from HT.out.symm.trans (decide_eq_true ⟨trivial, fun j hj => hal j (by omega)⟩)]; rfl, q⟩
  · have hE := cast_ne hnn
    obtain rfl : T = false := HT.out.symm.trans (decide_eq_false (fun h => hnn h.1))
    go_enter Try.func16, Try.ntmps16
    go_wp2_with fail
    go_ret
    exact ⟨rfl, Below.refl _ _⟩
set_option maxRecDepth 100000 in
set_option maxHeartbeats 4000000 in
theorem rforward_any {v v' : Value} {l l' : List Int} (w : World) (h : Ints w v l) (h' : Ints w v' l') :
    Calls Try.prog 17 #[v, v'] w fun e w' => e = .returned (.bool (fwd l l')) ∧ Below w.heap.size w w' := by
  obtain ⟨a, n, cap, b, o, p, rfl, rfl, ha, hr, hc, hm⟩ := h
  obtain ⟨a', n', cap', b', o', p', rfl, rfl, ha', hr', hc', hm'⟩ := h'
  obtain ⟨T, hT⟩ : ∃ T, fwd (toL n p) (toL n' p') = T := ⟨_, rfl⟩
  rw [hT]
  rw [fwd_toL] at hT
  have HT := Lib.hid hT
  have HR := Lib.hid hr
  have HA := Lib.hid ha
  have HR' := Lib.hid hr'
  have HA' := Lib.hid ha'
  have HL : Hid (n ≤ 9223372036854775807) := Lib.hid (by unfold maxLen at hm; omega)
  clear hr ha hr' ha' hc hm hc' hm' hT
  by_cases hnn : n = n'
  · subst hnn
    have hE := cast_eq n
    go_enter Try.func17, Try.ntmps17
    go_wp2_with fail
    go_loopg [5] n (fun g s5 wr => ∃ (i : Nat), i ≤ n ∧ g = n - i ∧ s5 = .int .i64 i ∧ (∀ j, j < i → p j ≤ p' j) ∧ Below w.heap.size w wr)
    case atStart => exact ⟨0, Nat.zero_le _, rfl, rfl, fun j hj => absurd hj (Nat.not_lt_zero _), Below.refl _ _⟩
    case round =>
      obtain ⟨i, hi, rfl, rfl, hal, q⟩ := hrel
      by_cases hlt : i < n
      · obtain rfl := HA.out (by omega)
        obtain rfl := HA'.out (by omega)
        have hz2 : (i : Int) < (n : Int) := by omega
        have hw1 : IntKind.i64.wrap ((i : Int) + 1) = (i : Int) + 1 := Go.IntWalk.i64_in _ (by have := HL.out; omega)
        have r1 := HR.out (by omega)
        have r2 := HR'.out (by omega)
        have x0 : wr.cell? ⟨b, o + i, none⟩ = some (.int .i64 (p i)) := (q.cell (p := ⟨b, o + i, none⟩) r1.lt).trans (r1.c i hlt)
        have y0 : wr.cell? ⟨b', o' + i, none⟩ = some (.int .i64 (p' i)) := (q.cell (p := ⟨b', o' + i, none⟩) r2.lt).trans (r2.c i hlt)
        have z1 : b < wr.heap.size := Nat.lt_of_lt_of_le r1.lt q.size
        have z2 : b' < wr.heap.size := Nat.lt_of_lt_of_le r2.lt q.size
        clear r1 r2 HR HR' HA HA'
        by_cases hpp : p i ≤ p' i
        · have hE1 : ¬ (p' i < p i) := by omega
          have HP := Lib.hid hpp
          clear hpp
          go_wp2_with fail
          refine wp_region_below (by kernel_rfl) (by kernel_rfl) ?_
          iterate 9 (first | (refine lex_skip (by rfl) (fun _ _ _ _ h => h) ?_; simp only [Act.put, List.setIfInBounds_toArray, List.set_cons_zero, List.set_cons_succ]) | (refine lex_op (by rfl) ?_; apply Exists.intro; refine ⟨?_, ?_⟩; ((intro _ _ _ _ hT; obtain ⟨hc, hf⟩ := bcell hT; go_simp; first | exact rfl | fail)); simp only [Act.put, List.setIfInBounds_toArray, List.set_cons_zero, List.set_cons_succ]))
          refine lex_nil ?_
          intro w2 bel2
          have p2 : Below w.heap.size w w2 := (by repeat' (first | with_reducible exact Below.refl _ _ | with_reducible assumption | with_reducible refine bel_drew ?_ | with_reducible refine bel_alloc ?_ _ | with_reducible refine bel_set ?_ ?_ _ | with_reducible refine bel_call ?_ (by assumption) | (dsimp only; omega) | (simp; done) | (simp; omega)))
          clear x0 y0 bel2 z1 z2
          go_wp2_with fail
          go_roundg (n - (i + 1))
          case measure => omega
          case rel => exact ⟨i + 1, hlt, rfl, (by first | rfl | simp), fun j hj => by
            rcases Nat.lt_or_ge j i with h1 | h1
            · exact hal j h1
            · obtain rfl : j = i := by omega
              exact (by have := HP.out; omega), p2⟩
        · have hE1 : p' i < p i := by omega
          have HP := Lib.hid hpp
          clear hpp
          go_wp2_with fail
          refine wp_region_below (by kernel_rfl) (by kernel_rfl) ?_
          iterate 9 (first | (refine lex_skip (by rfl) (fun _ _ _ _ h => h) ?_; simp only [Act.put, List.setIfInBounds_toArray, List.set_cons_zero, List.set_cons_succ]) | (refine lex_op (by rfl) ?_; apply Exists.intro; refine ⟨?_, ?_⟩; ((intro _ _ _ _ hT; obtain ⟨hc, hf⟩ := bcell hT; go_simp; first | exact rfl | fail)); simp only [Act.put, List.setIfInBounds_toArray, List.set_cons_zero, List.set_cons_succ]))
          refine lex_nil ?_
          intro w2 bel2
          have p2 : Below w.heap.size w w2 := (by repeat' (first | with_reducible exact Below.refl _ _ | with_reducible assumption | with_reducible refine bel_drew ?_ | with_reducible refine bel_alloc ?_ _ | with_reducible refine bel_set ?_ ?_ _ | with_reducible refine bel_call ?_ (by assumption) | (dsimp only; omega) | (simp; done) | (simp; omega)))
          clear x0 y0 bel2 z1 z2
          go_wp2_with fail
          go_ret
          exact ⟨by rw [show T = false from HT.out.symm.trans (decide_eq_false (fun h => absurd (h.2 i hlt) (by have := HP.out; omega)))]; rfl, p2⟩
      · have hz2 : ¬ ((i : Int) < (n : Int)) := by omega
        go_wp2_with fail
        go_ret
        exact ⟨by rw [show T = true from HT.out.symm.trans (decide_eq_true ⟨trivial, fun j hj => hal j (by omega)⟩)]; rfl, q⟩
  · have hE := cast_ne hnn
    obtain rfl : T = false := HT.out.symm.trans (decide_eq_false (fun h => hnn h.1))
    go_enter Try.func17, Try.ntmps17
    go_wp2_with fail
    go_ret
    exact ⟨rfl, Below.refl _ _⟩
end Go.Proofs.Ytbckfoldjlgabaa
namespace Go.Proofs.Ytbckfoldjlgabaa
open Go.RowKit
open Fl (nan key canon)
section
variable {P : Program} (w : World)
/-- append onto a slice of the call's own, whatever is appended -/
theorem wpList_append_any {ops : Array Oper} {rest : List Oper} {o : Oper} {a : Act} {Q : Exit → Act → World → Prop} (hgd : o.guard = none) (s x : Operand) (t : TypeId)
    (ho : o.op = .call { callee := .builtin .append, args := #[s, x], argTypes := #[t, t] })
    (base : Nat) (e : TypeId) (i : TypeInfo) (z : Value) (m bytes : Nat) (ht : P.underlying t = some (.slice e)) (hi : P.info? e = some i) (hz : i.zero = some z) (hsize : i.size = m) (hby : i.bytes = bytes) (hzs : z.cells.size = m) (hsz : 0 < m)
    (v : Value) (n : Nat) (el : Nat → List Value) (hse : a.eval s = v) (hown : w.ownsRow base e m v n (flat el n))
    (src : Option Addr) (k c rb ro : Nat) (hx : a.eval x = .slice src k c) (el' : Nat → List Value) (hl : ∀ i, (el' i).length = m) (h1 : ∀ i u, u ∈ el' i → u.oneCell' = true) (hs : 0 < k → src = some ⟨rb, ro, none⟩) (hr : 0 < k → Lies w rb ro m el' k)
    (h63 : n + k ≤ maxLen) (hbytes : (n + k) * bytes ≤ 140737488355328) (hbase : base ≤ w.heap.size)
    (h : ∀ v' w', w'.ownsRow base e m v' (n + k) (flat (both el n el') (n + k)) → w.grownBy w' v.ownBlock → (v'.ownBlock = v.ownBlock ∨ v'.ownBlock = some w.heap.size) → wpList P ops Q rest (a.put o.dst v') w') : wpList P ops Q (o :: rest) a w := by
  by_cases hk0 : k = 0 ∧ src = none
  · obtain ⟨rfl, rfl⟩ := hk0
    refine wpList_plain hgd fun K hK => ?_
    unfold Oper.wp execOp
    have hrun := run_append_none (P := P) w base t o.type e i m ht hi v n _ hown c
    simp only [ho, resolve, invoke, builtin, Sem.run_bind, Sem.run_pure, Result.andThen_ok, List.map_toArray, List.map_cons, List.map_nil, hse, hx, hrun]
    exact hK _ _ (h v w (by rw [← flat_add]; simpa [flat] using hown) (World.grownBy.refl w _) (.inl rfl))
  · obtain ⟨ad, hsrc⟩ : ∃ ad, src = some ad := by
      cases src with
      | some ad => exact ⟨ad, rfl⟩
      | none =>
        by_cases hk : k = 0
        · exact absurd ⟨hk, rfl⟩ hk0
        · exact absurd (hs (by omega)) (by simp)
    subst hsrc
    refine wpList_append_own_at (P := P) w hgd s x t ho base e i z m bytes ht hi hz hsize hby hzs hsz v n (flat el n) hse hown ad k c (flat el' k) hx (flat_len hl k) ?_ (fun u hu => by obtain ⟨j, _, hj⟩ := flat_mem hu; exact h1 j u hj) h63 hbytes hbase ?_
    · intro j u hu
      have hk : 0 < k := by
        rcases Nat.eq_zero_or_pos k with rfl | hk
        · simp [flat] at hu
        · exact hk
      have := hs hk
      cases this
      exact (hr hk).news hl j u hu
    · intro v' w' h2 h3 _ h5
      exact h v' w' (by rw [← flat_add]; exact h2) h3 h5
end
/-- the cells of a number, of a record, of a step -/
def inc (p : Nat → Int) (i : Nat) : List Value := [.int .i64 (p i)]
def rcc (p : Nat → Rc) (i : Nat) : List Value := [.int .u64 (p i).key, .float .f64 (p i).val]
def stc (p : Nat → Stp) (i : Nat) : List Value := [.int .i64 (p i).kind, .int .i64 (p i).n, .float .f64 (p i).x]
theorem inc_len (p : Nat → Int) (i : Nat) : (inc p i).length = 1 := rfl
theorem rcc_len (p : Nat → Rc) (i : Nat) : (rcc p i).length = 2 := rfl
theorem stc_len (p : Nat → Stp) (i : Nat) : (stc p i).length = 3 := rfl
theorem inc_one (p : Nat → Int) (i : Nat) (u : Value) (h : u ∈ inc p i) : u.oneCell' = true := by
  simp only [inc, List.mem_cons, List.not_mem_nil, or_false] at h
  subst h; rfl
theorem rcc_one (p : Nat → Rc) (i : Nat) (u : Value) (h : u ∈ rcc p i) : u.oneCell' = true := by
  simp only [rcc, List.mem_cons, List.not_mem_nil, or_false] at h
  rcases h with rfl | rfl <;> rfl
theorem stc_one (p : Nat → Stp) (i : Nat) (u : Value) (h : u ∈ stc p i) : u.oneCell' = true := by
  simp only [stc, List.mem_cons, List.not_mem_nil, or_false] at h
  rcases h with rfl | rfl | rfl <;> rfl
theorem Nums.lies {w : World} {b o n : Nat} {p : Nat → Int} (h : Nums w b o n p) : Lies w b o 1 (inc p) n :=
  ⟨h.lt, fun i k hi hk => by
    obtain rfl : k = 0 := by omega
    have := h.c i hi
    simpa [inc] using this⟩
theorem Lies.nums {w : World} {b o n : Nat} {p : Nat → Int} (h : Lies w b o 1 (inc p) n) (hok : ∀ i, i < n → -9223372036854775808 ≤ p i ∧ p i ≤ 9223372036854775807) : Nums w b o n p :=
  ⟨h.lt, hok, fun i hi => by
    have := h.at_ i 0 hi (by decide)
    simpa [inc] using this⟩
theorem Rcs.lies {w : World} {b o n : Nat} {p : Nat → Rc} (h : Rcs w b o n p) : Lies w b o 2 (rcc p) n :=
  ⟨h.lt, fun i k hi hk => by
    match k, hk with
    | 0, _ => exact h.c0 i hi
    | 1, _ => exact h.c1 i hi⟩
theorem Lies.rcs {w : World} {b o n : Nat} {p : Nat → Rc} (h : Lies w b o 2 (rcc p) n) (hok : ∀ i, i < n → (p i).ok) : Rcs w b o n p :=
  ⟨h.lt, hok, fun i hi => h.at_ i 0 hi (by decide), fun i hi => h.at_ i 1 hi (by decide)⟩
theorem Stps.lies' {w : World} {b o n : Nat} {p : Nat → Stp} (h : Stps w b o n p) : Lies w b o 3 (stc p) n :=
  ⟨h.lt, fun i k hi hk => by
    match k, hk with
    | 0, _ => exact h.c0 i hi
    | 1, _ => exact h.c1 i hi
    | 2, _ => exact h.c2 i hi⟩
theorem Lies.stps' {w : World} {b o n : Nat} {p : Nat → Stp} (h : Lies w b o 3 (stc p) n) (hok : ∀ i, i < n → (p i).ok) : Stps w b o n p :=
  ⟨h.lt, hok, fun i hi => h.at_ i 0 hi (by decide), fun i hi => h.at_ i 1 hi (by decide), fun i hi => h.at_ i 2 hi (by decide)⟩
/-- v is a slice of the call's own, these numbers lie in it -/
def OwnI (w : World) (base : Nat) (v : Value) (l : List Int) : Prop :=
  ∃ n p, l = toL n p ∧ (∀ i, i < n → -9223372036854775808 ≤ p i ∧ p i ≤ 9223372036854775807) ∧ w.ownsRow base 3 1 v n (flat (inc p) n) ∧ n ≤ 17592186043904
def OwnR (w : World) (base : Nat) (v : Value) (l : List Rc) : Prop :=
  ∃ n p, l = toL n p ∧ (∀ i, i < n → (p i).ok) ∧ w.ownsRow base 66 2 v n (flat (rcc p) n) ∧ n ≤ 8796093021952
theorem OwnI.ints {w : World} {base : Nat} {v : Value} {l : List Int} (h : OwnI w base v l) : Ints w v l := by
  obtain ⟨n, p, rfl, hp, ho, hn⟩ := h
  rcases ho.2 with ⟨rfl, rfl⟩ | ⟨g, cap, cur, rfl, _, _, h1, h2, _⟩
  · exact Ints.nil w
  · exact ⟨_, n, cap, g, 0, p, rfl, rfl, fun _ => rfl, fun _ => (ownsRow_lies ho (inc_len p)).nums hp, h1, h2, hn⟩
theorem OwnR.recs {w : World} {base : Nat} {v : Value} {l : List Rc} (h : OwnR w base v l) : Recs w v l := by
  obtain ⟨n, p, rfl, hp, ho, hn⟩ := h
  rcases ho.2 with ⟨rfl, rfl⟩ | ⟨g, cap, cur, rfl, _, _, h1, h2, _⟩
  · exact Recs.nil w
  · exact ⟨_, n, cap, g, 0, p, rfl, rfl, fun _ => rfl, fun _ => (ownsRow_lies ho (rcc_len p)).rcs hp, h1, h2, hn⟩
theorem infoInt : (Try.prog.info? 3).map (fun i => (i.zero, i.size, i.bytes)) = some (some (.int .i64 0), 1, 8) := by kernel_rfl
theorem infoRec : (Try.prog.info? 66).map (fun i => (i.zero, i.size, i.bytes)) = some (some (.agg #[.int .u64 0, .float .f64 0]), 2, 16) := by kernel_rfl
theorem infoStp : (Try.prog.info? 73).map (fun i => (i.zero, i.size, i.bytes)) = some (some (.agg #[.int .i64 0, .int .i64 0, .float .f64 0]), 3, 24) := by kernel_rfl
theorem both_none (el el' : Nat → List Value) (k : Nat) : flat (both el 0 el') (0 + k) = flat el' k := by
  rw [Nat.zero_add]
  exact flat_congr fun i _ => by unfold both; rw [if_neg (by omega), Nat.sub_zero]
/-- an empty slice that was just made -/
theorem owns_none (w : World) (e : TypeId) (m : Nat) (el : Nat → List Value) : (w.alloc (.cells #[] e)).ownsRow w.heap.size e m (.slice (some ⟨w.heap.size, 0, none⟩) 0 0) 0 (flat el 0) :=
  World.ownsRow_made w #[] 0 (Nat.le_refl _) (by unfold maxLen; omega) (by simp)
theorem nil_yes (cap : Nat) (W : World) : (binOp .eql 23 (.slice none 0 cap) (.slice none 0 0)).run Try.prog W = .ok (.bool true) W := by kernel_rfl
theorem nil_no (ad : Addr) (n cap : Nat) (W : World) : (binOp .eql 23 (.slice (some ad) n cap) (.slice none 0 0)).run Try.prog W = .ok (.bool false) W := by kernel_rfl
set_option maxRecDepth 100000 in
theorem clone_ints {v : Value} {l : List Int} (w : World) (h : Ints w v l) :
    Calls Try.prog 33 #[v] w fun e w' => ∃ v', e = .returned v' ∧ OwnI w' w.heap.size v' l ∧ Below w.heap.size w w' := by
  obtain ⟨a, n, cap, b, o, p, rfl, rfl, ha, hr, hc, hm⟩ := h
  obtain ⟨i0, hi, hz0, hz1, hz2⟩ := info_parts infoInt
  cases a with
  | none =>
    have hn : n = 0 := by
      rcases Nat.eq_zero_or_pos n with h | h
      · exact h
      · exact absurd (ha h) (by simp)
    subst hn
    clear ha hr hc hm
    have q1 := nil_yes
    have q2 := nil_no
    go_enter Try.func33, Try.ntmps33
    go_wp2_with fail
    go_ret
    exact ⟨_, rfl, ⟨0, p, rfl, fun i hi => absurd hi (Nat.not_lt_zero _), World.ownsRow_nil _ _ _ _, by omega⟩, Below.refl _ _⟩
  | some ad =>
    have L := fun h => ((hr h).lies.alloc (.cells #[] 3))
    have q1 := nil_yes
    have q2 := nil_no
    go_enter Try.func33, Try.ntmps33
    go_wp2_with (at_builtin; refine wpList_append_any _ rfl (.tmp 5) (.tmp 6) 23 rfl w.heap.size 3 i0 _ 1 8 Try.underlying23 hi hz0 hz1 hz2 rfl (by decide) _ 0 (inc p) rfl (owns_none w _ _ _) _ n cap b o rfl (inc p) (inc_len p) (inc_one p) ha L (by unfold maxLen at *; omega) (by omega) (by simp) ?_; intro v' w3 own3 grow3 hat)
    go_ret
    rw [both_none, Nat.zero_add] at own3
    exact ⟨_, rfl, ⟨n, p, rfl, fun i hi => (hr (by omega)).ok i hi, own3, hm.2⟩, ((Below.refl _ _).alloc (Nat.le_refl _) _).grown grow3 (by simp) (fun k h => by cases h; exact Nat.le_refl _)⟩
theorem nilr_yes (cap : Nat) (W : World) : (binOp .eql 22 (.slice none 0 cap) (.slice none 0 0)).run Try.prog W = .ok (.bool true) W := by kernel_rfl
theorem nilr_no (ad : Addr) (n cap : Nat) (W : World) : (binOp .eql 22 (.slice (some ad) n cap) (.slice none 0 0)).run Try.prog W = .ok (.bool false) W := by kernel_rfl
set_option maxRecDepth 100000 in
theorem clone_recs {v : Value} {l : List Rc} (w : World) (h : Recs w v l) :
    Calls Try.prog 61 #[v] w fun e w' => ∃ v', e = .returned v' ∧ OwnR w' w.heap.size v' l ∧ Below w.heap.size w w' := by
  obtain ⟨a, n, cap, b, o, p, rfl, rfl, ha, hr, hc, hm⟩ := h
  obtain ⟨i0, hi, hz0, hz1, hz2⟩ := info_parts infoRec
  cases a with
  | none =>
    have hn : n = 0 := by
      rcases Nat.eq_zero_or_pos n with h | h
      · exact h
      · exact absurd (ha h) (by simp)
    subst hn
    clear ha hr hc hm
    have q1 := nilr_yes
    have q2 := nilr_no
    go_enter Try.func61, Try.ntmps61
    go_wp2_with fail
    go_ret
    exact ⟨_, rfl, ⟨0, p, rfl, fun i hi => absurd hi (Nat.not_lt_zero _), World.ownsRow_nil _ _ _ _, by omega⟩, Below.refl _ _⟩
  | some ad =>
    have L := fun h => ((hr h).lies.alloc (.cells #[] 66))
    have q1 := nilr_yes
    have q2 := nilr_no
    go_enter Try.func61, Try.ntmps61
    go_wp2_with (at_builtin; refine wpList_append_any _ rfl (.tmp 5) (.tmp 6) 22 rfl w.heap.size 66 i0 _ 2 16 Try.underlying22 hi hz0 hz1 hz2 rfl (by decide) _ 0 (rcc p) rfl (owns_none w _ _ _) _ n cap b o rfl (rcc p) (rcc_len p) (rcc_one p) ha L (by unfold maxLen at *; omega) (by omega) (by simp) ?_; intro v' w3 own3 grow3 hat)
    go_ret
    rw [both_none, Nat.zero_add] at own3
    exact ⟨_, rfl, ⟨n, p, rfl, fun i hi => (hr (by omega)).ok i hi, own3, hm.2⟩, ((Below.refl _ _).alloc (Nat.le_refl _) _).grown grow3 (by simp) (fun k h => by cases h; exact Nat.le_refl _)⟩
set_option maxRecDepth 100000 in
theorem copied_any {v : Value} {l : List Int} (w : World) (h : Ints w v l) :
    Calls Try.prog 49 #[v] w fun e w' => ∃ v', e = .returned v' ∧ OwnI w' w.heap.size v' l ∧ Below w.heap.size w w' := by
  obtain ⟨a, n, cap, b, o, p, rfl, rfl, ha, hr, hc, hm⟩ := h
  obtain ⟨i0, hi, hz0, hz1, hz2⟩ := info_parts infoInt
  have L := fun h => ((hr h).lies.alloc (.cells #[] 3))
  go_enter Try.func49, Try.ntmps49
  go_wp2_with (at_builtin; refine wpList_append_any _ rfl (.tmp 5) (.tmp 6) 23 rfl w.heap.size 3 i0 _ 1 8 Try.underlying23 hi hz0 hz1 hz2 rfl (by decide) _ 0 (inc p) rfl (owns_none w _ _ _) _ n cap b o rfl (inc p) (inc_len p) (inc_one p) ha L (by unfold maxLen at *; omega) (by omega) (by simp) ?_; intro v' w3 own3 grow3 hat)
  go_ret
  rw [both_none, Nat.zero_add] at own3
  exact ⟨_, rfl, ⟨n, p, rfl, fun i hi => (hr (by omega)).ok i hi, own3, hm.2⟩, ((Below.refl _ _).alloc (Nat.le_refl _) _).grown grow3 (by simp) (fun k h => by cases h; exact Nat.le_refl _)⟩
theorem nilo_no (ad : Addr) (n cap : Nat) (W : World) : (binOp .eql 74 (.slice (some ad) n cap) (.slice none 0 0)).run Try.prog W = .ok (.bool false) W := by kernel_rfl
set_option maxRecDepth 100000 in
/-- the clone of a list of one step -/
theorem clone_one (b : Nat) (p : Nat → Stp) (w : World) (h : Stps w b 0 1 p) :
    Calls Try.prog 51 #[.slice (some ⟨b, 0, none⟩) 1 1] w fun e w' => ∃ v', e = .returned v' ∧ w'.ownsRow w.heap.size 73 3 v' 1 (flat (stc p) 1) ∧ Below w.heap.size w w' := by
  obtain ⟨i0, hi, hz0, hz1, hz2⟩ := info_parts infoStp
  have L := fun (_ : 0 < 1) => (h.lies'.alloc (.cells #[] 73))
  have q2 := nilo_no
  go_enter Try.func51, Try.ntmps51
  go_wp2_with (at_builtin; refine wpList_append_any _ rfl (.tmp 5) (.tmp 6) 74 rfl w.heap.size 73 i0 _ 3 24 Try.underlying74 hi hz0 hz1 hz2 rfl (by decide) _ 0 (stc p) rfl (owns_none w _ _ _) _ 1 1 b 0 rfl (stc p) (stc_len p) (stc_one p) (fun _ => rfl) L (by unfold maxLen; omega) (by omega) (by simp) ?_; intro v' w3 own3 grow3 hat)
  go_ret
  rw [both_none, Nat.zero_add] at own3
  exact ⟨_, rfl, own3, ((Below.refl _ _).alloc (Nat.le_refl _) _).grown grow3 (by simp) (fun k h => by cases h; exact Nat.le_refl _)⟩
end Go.Proofs.Ytbckfoldjlgabaa
namespace Go.Proofs.Ytbckfoldjlgabaa
open Go.RowKit
open Fl (nan key canon)
/-- what a source holds -/
structure St where
  n : Nat
  log : Nat → List Rc
  off : Nat → Bool
/-- .. is right -/
structure St.ok (s : St) : Prop where
  n1 : 1 ≤ s.n
  n4 : s.n ≤ 4
  le : ∀ i, i < s.n → (s.log i).length ≤ 256
/-- the cells of a partition -/
def ptc (lg : Nat → Value) (off : Nat → Bool) (i : Nat) : List Value := [lg i, .bool (off i)]
theorem ptc_len (lg : Nat → Value) (off : Nat → Bool) (i : Nat) : (ptc lg off i).length = 2 := rfl
/-- a source lies in block sb -/
structure Src (w : World) (sb pb : Nat) (lv mv : Value) (lg : Nat → Value) (s : St) : Prop where
  ok : s.ok
  hd : Blk w sb [.slice (some ⟨pb, 0, none⟩) s.n s.n, lv, mv] 84
  pt : Blk w pb (flat (ptc lg s.off) s.n) 89
  rc : ∀ i, i < s.n → OwnR w 0 (lg i) (s.log i)
theorem OwnR.shape {w : World} {base : Nat} {v : Value} {l : List Rc} (h : OwnR w base v l) : ∃ a cap, v = .slice a l.length cap := by
  obtain ⟨n, p, rfl, _, ho, _⟩ := h
  rw [toL_len]
  rcases ho.2 with ⟨rfl, rfl⟩ | ⟨g, cap, cur, rfl, _⟩
  · exact ⟨none, 0, rfl⟩
  · exact ⟨_, cap, rfl⟩
section
variable {w : World} {sb pb : Nat} {lv mv : Value} {lg : Nat → Value} {s : St}
theorem Src.c0 (h : Src w sb pb lv mv lg s) {p : Nat} (hp : p < s.n) : w.cell? ⟨pb, p * 2, none⟩ = some (lg p) := by
  have := h.pt.cell (p * 2 + 0)
  rw [flat_get (ptc_len lg s.off) (by decide) hp] at this
  exact this
theorem Src.c1 (h : Src w sb pb lv mv lg s) {p : Nat} (hp : p < s.n) : w.cell? ⟨pb, p * 2 + 1, none⟩ = some (.bool (s.off p)) := by
  have := h.pt.cell (p * 2 + 1)
  rw [flat_get (ptc_len lg s.off) (by decide) hp] at this
  exact this
theorem Src.h0 (h : Src w sb pb lv mv lg s) : w.cell? ⟨sb, 0, none⟩ = some (.slice (some ⟨pb, 0, none⟩) s.n s.n) := h.hd.cell 0
theorem Src.h1 (h : Src w sb pb lv mv lg s) : w.cell? ⟨sb, 1, none⟩ = some lv := h.hd.cell 1
theorem Src.h2 (h : Src w sb pb lv mv lg s) : w.cell? ⟨sb, 2, none⟩ = some mv := h.hd.cell 2
set_option maxRecDepth 100000 in
theorem find_in (h : Src w sb pb lv mv lg s) {p : Nat} (hp : p < s.n) :
    Calls Try.prog 45 #[.pointer (some ⟨sb, 0, none⟩), .int .i64 p] w fun e w' => e = .returned (.tuple #[.pointer (some ⟨pb, p * 2, none⟩), .int .i64 0]) ∧ w = w' := by
  have h1 := h.ok.n4
  have q0 := h.h0
  have hz := h.pt.lt
  have hy := h.hd.lt
  clear h
  obtain ⟨n, lo, of⟩ := s
  dsimp only at *
  have z1 : ¬ (p : Int) < 0 := by omega
  have z2 : ¬ (n : Int) ≤ (p : Int) := by omega
  have z3 : (p : Int) < (n : Int) := by omega
  go_enter Try.func45, Try.ntmps45
  go_wp2_with fail
  go_ret2
  exact ⟨rfl, rfl⟩
set_option maxRecDepth 100000 in
theorem find_out (h : Src w sb pb lv mv lg s) {p : Int} (hp : p < 0 ∨ (s.n : Int) ≤ p) :
    Calls Try.prog 45 #[.pointer (some ⟨sb, 0, none⟩), .int .i64 p] w fun e w' => e = .returned (.tuple #[.pointer none, .int .i64 60]) ∧ w = w' := by
  have h1 := h.ok.n4
  have q0 := h.h0
  have hz := h.pt.lt
  have hy := h.hd.lt
  clear h
  obtain ⟨n, lo, of⟩ := s
  dsimp only at *
  by_cases z1 : p < 0
  · go_enter Try.func45, Try.ntmps45
    go_wp2_with fail
    go_ret2
    exact ⟨rfl, rfl⟩
  · have z2 : (n : Int) ≤ p := by omega
    go_enter Try.func45, Try.ntmps45
    go_wp2_with fail
    go_ret2
    exact ⟨rfl, rfl⟩
set_option maxRecDepth 100000 in
theorem sparts_any (h : Src w sb pb lv mv lg s) :
    Calls Try.prog 22 #[.pointer (some ⟨sb, 0, none⟩)] w fun e w' => e = .returned (.int .i64 s.n) ∧ w = w' := by
  have q0 := h.h0
  have hy := h.hd.lt
  clear h
  obtain ⟨n, lo, of⟩ := s
  dsimp only at *
  go_enter Try.func22, Try.ntmps22
  go_wp2_with fail
  go_ret
  exact ⟨rfl, rfl⟩
set_option maxRecDepth 100000 in
theorem sup_any (h : Src w sb pb lv mv lg s) {p : Nat} (hp : p < s.n) :
    Calls Try.prog 24 #[.pointer (some ⟨sb, 0, none⟩), .int .i64 p] w fun e w' => e = .returned (.bool (!s.off p)) ∧ w = w' := by
  have C1 := Lib.hid (find_in h hp)
  have x0 := h.c1 hp
  have hz := h.pt.lt
  clear h
  obtain ⟨n, lo, of⟩ := s
  dsimp only at *
  go_enter Try.func24, Try.ntmps24
  go_wp2_with fail
  refine C1.out.mono ?_
  rintro e w' ⟨rfl, rfl⟩
  go_wp2_with fail
  go_ret
  exact ⟨rfl, rfl⟩
set_option maxRecDepth 100000 in
theorem slen_any (h : Src w sb pb lv mv lg s) {p : Nat} (hp : p < s.n) :
    Calls Try.prog 25 #[.pointer (some ⟨sb, 0, none⟩), .int .i64 p] w fun e w' => e = .returned (.int .i64 (s.log p).length) ∧ w = w' := by
  have C1 := Lib.hid (find_in h hp)
  have x0 := h.c0 hp
  have hz := h.pt.lt
  obtain ⟨a, cap, hs⟩ := (h.rc p hp).shape
  rw [hs] at x0
  clear h hs
  generalize (s.log p).length = n at *
  go_enter Try.func25, Try.ntmps25
  go_wp2_with fail
  refine C1.out.mono ?_
  rintro e w' ⟨rfl, rfl⟩
  go_wp2_with fail
  go_ret
  exact ⟨rfl, rfl⟩
set_option maxRecDepth 100000 in
theorem slog_any (h : Src w sb pb lv mv lg s) {p : Nat} (hp : p < s.n) :
    Calls Try.prog 46 #[.pointer (some ⟨sb, 0, none⟩), .int .i64 p] w fun e w' => ∃ v, e = .returned v ∧ OwnR w' w.heap.size v (s.log p) ∧ Below w.heap.size w w' := by
  have C1 := Lib.hid (find_in h hp)
  have C2 := Lib.hid (clone_recs w (h.rc p hp).recs)
  have x0 := h.c0 hp
  have hz := h.pt.lt
  clear h
  generalize s.log p = l at *
  generalize lg p = v at *
  go_enter Try.func46, Try.ntmps46
  go_wp2_with fail
  refine C1.out.mono ?_
  rintro e w' ⟨rfl, rfl⟩
  go_wp2_with fail
  refine C2.out.mono ?_
  rintro e w' ⟨v', rfl, hv, hb⟩
  go_wp2_with fail
  go_ret
  exact ⟨_, rfl, hv, hb⟩
end
end Go.Proofs.Ytbckfoldjlgabaa
namespace Go.Proofs.Ytbckfoldjlgabaa
open Go.RowKit
open Fl (nan key canon)
/-- these ends fit -/
def fits (s : St) (l : List Int) : Bool := decide (l.length = s.n ∧ ∀ i, i < l.length → 0 ≤ l.getD i 0 ∧ l.getD i 0 ≤ (s.log i).length)
theorem fits_toL {s : St} {n : Nat} {p : Nat → Int} : fits s (toL n p) = decide (n = s.n ∧ ∀ i, i < n → 0 ≤ p i ∧ p i ≤ (s.log i).length) := by
  unfold fits
  rw [decide_eq_decide, toL_len]
  constructor
  · rintro ⟨h1, h⟩
    exact ⟨h1, fun i hi => by have := h i hi; rwa [toL_getD hi] at this⟩
  · rintro ⟨h1, h⟩
    exact ⟨h1, fun i hi => by rw [toL_getD hi]; exact h i hi⟩
section
variable {w : World} {sb pb : Nat} {lv mv : Value} {lg : Nat → Value} {s : St}
set_option maxRecDepth 100000 in
theorem check_nil (v : Value) (w : World) : Calls Try.prog 32 #[.pointer none, v] w fun e w' => e = .returned (.int .i64 2) ∧ w = w' := by
  go_enter Try.func32, Try.ntmps32
  go_wp2_with fail
  go_ret
  exact ⟨rfl, rfl⟩
set_option maxRecDepth 100000 in
set_option maxHeartbeats 4000000 in
theorem scheck_any {v : Value} {l : List Int} (hs : Src w sb pb lv mv lg s) (h : Ints w v l) :
    Calls Try.prog 32 #[.pointer (some ⟨sb, 0, none⟩), v] w fun e w' => e = .returned (.int .i64 (if fits s l = true then 0 else 70)) ∧ w = w' := by
  obtain ⟨a, n, cap, b, o, p, rfl, rfl, ha, hr, hc, hm⟩ := h
  obtain ⟨T, hT⟩ : ∃ T : Int, (if fits s (toL n p) = true then 0 else 70) = T := ⟨_, rfl⟩
  rw [hT]
  rw [fits_toL] at hT
  have HT := Lib.hid hT
  have C1 := Lib.hid (sparts_any hs)
  have C2 := Lib.hid (fun i hi => slen_any hs (p := i) hi)
  have hn4 := hs.ok.n4
  have HR := Lib.hid hr
  have HA := Lib.hid ha
  clear hr ha hT hc hm hs
  obtain ⟨N, lo, of⟩ := s
  dsimp only at *
  by_cases hnn : n = N
  · subst hnn
    have hE := cast_eq n
    have hn5 : (n : Int) ≤ 4 := by omega
    go_enter Try.func32, Try.ntmps32
    go_wp2_with fail
    refine C1.out.mono ?_
    rintro e w' ⟨rfl, rfl⟩
    go_wp2_with fail
    go_loopg [16] n (fun g s16 wr => ∃ (i : Nat), i ≤ n ∧ g = n - i ∧ s16 = .int .i64 i ∧ (∀ j, j < i → 0 ≤ p j ∧ p j ≤ ((lo j).length : Int)) ∧ wr = w)
    case atStart => exact ⟨0, Nat.zero_le _, rfl, rfl, fun j hj => absurd hj (Nat.not_lt_zero _), rfl⟩
    case round =>
      obtain ⟨i, hi, rfl, rfl, hal, rfl⟩ := hrel
      have HAL := Lib.hid hal
      clear hal
      by_cases hlt : i < n
      · obtain rfl := HA.out (by omega)
        have hz2 : (i : Int) < (n : Int) := by omega
        have hw1 : IntKind.i64.wrap ((i : Int) + 1) = (i : Int) + 1 := Go.IntWalk.i64_in _ (by omega)
        have r1 := HR.out (by omega)
        have x0 := r1.c i hlt
        have z1 := r1.lt
        have C3 := Lib.hid (C2.out i hlt)
        clear r1 HR HA C1 C2
        by_cases h0 : p i < 0
        · have hTT : T = 70 := by rw [← HT.out, if_neg]; intro hd; have := (of_decide_eq_true hd).2 i hlt; omega
          subst hTT
          clear HT HAL
          go_wp2_with fail
          go_ret
          exact ⟨rfl, rfl⟩
        · by_cases h1 : ((lo i).length : Int) < p i
          · have hTT : T = 70 := by rw [← HT.out, if_neg]; intro hd; have := (of_decide_eq_true hd).2 i hlt; omega
            subst hTT
            clear HT HAL
            go_wp2_with fail
            refine C3.out.mono ?_
            rintro e w' ⟨rfl, rfl⟩
            go_wp2_with fail
            go_ret
            exact ⟨rfl, rfl⟩
          · have HP : Hid (0 ≤ p i ∧ p i ≤ ((lo i).length : Int)) := Lib.hid (by omega)
            go_wp2_with fail
            refine C3.out.mono ?_
            rintro e w' ⟨rfl, rfl⟩
            go_wp2_with fail
            go_roundg (n - (i + 1))
            case measure => omega
            case rel => exact ⟨i + 1, hlt, rfl, (by first | rfl | simp), fun j hj => by
              rcases Nat.lt_or_ge j i with h1 | h1
              · exact HAL.out j h1
              · obtain rfl : j = i := by omega
                exact HP.out, rfl⟩
      · have hz2 : ¬ ((i : Int) < (n : Int)) := by omega
        have hTT : T = 0 := by rw [← HT.out, if_pos]; exact decide_eq_true ⟨by first | exact rfl | trivial, fun j hj => HAL.out j (by omega)⟩
        subst hTT
        clear HT HAL
        go_wp2_with fail
        go_ret
        exact ⟨rfl, rfl⟩
  · have hE := cast_ne hnn
    have hTT : T = 70 := by rw [← HT.out, if_neg]; intro hd; exact hnn (of_decide_eq_true hd).1
    subst hTT
    clear HT
    go_enter Try.func32, Try.ntmps32
    go_wp2_with fail
    refine C1.out.mono ?_
    rintro e w' ⟨rfl, rfl⟩
    go_wp2_with fail
    go_ret
    exact ⟨rfl, rfl⟩
end
end Go.Proofs.Ytbckfoldjlgabaa
