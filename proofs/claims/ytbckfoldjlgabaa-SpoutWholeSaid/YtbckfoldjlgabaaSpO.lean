/- PLAIN: the keys that a pipeline gives to records: a rising list, one more key. WALKS of law07: With. WALKS of law07: the document's Keys. -/
import Derived.Test.YtbckfoldjlgabaaSpL
import Derived.Maps.OwnSet
namespace Go.Proofs.Ytbckfoldjlgabaa
open Go.RowKit
open Fl (nan key canon)
/-- how many of the first lie below k -/
def pos : List Int → Int → Nat
  | [], _ => 0
  | a :: l, k => if a < k then pos l k + 1 else 0
/-- rising keys with one more -/
def wth (l : List Int) (k : Int) : List Int := if l[pos l k]? = some k then l else l.take (pos l k) ++ k :: l.drop (pos l k)
def Rises (l : List Int) : Prop := l.Pairwise (· < ·)
theorem pos_le : ∀ (l : List Int) (k : Int), pos l k ≤ l.length
  | [], _ => Nat.le_refl _
  | a :: l, k => by
    unfold pos
    split
    · have := pos_le l k
      simp; omega
    · simp
theorem pos_lt : ∀ (l : List Int) (k : Int) (i : Nat) (x : Int), i < pos l k → l[i]? = some x → x < k
  | a :: l, k, i, x, hi, hx => by
    unfold pos at hi
    split at hi
    · rename_i h
      match i, hi, hx with
      | 0, _, hx => simp at hx; omega
      | i + 1, hi, hx => exact pos_lt l k i x (by omega) (by simpa using hx)
    · omega
theorem pos_at : ∀ (l : List Int) (k : Int) (x : Int), l[pos l k]? = some x → k ≤ x
  | a :: l, k, x, hx => by
    unfold pos at hx
    split at hx
    · exact pos_at l k x (by simpa using hx)
    · simp at hx; omega
theorem pos_unique (l : List Int) (k : Int) (n : Nat) (h1 : ∀ i x, i < n → l[i]? = some x → x < k) (h2 : n ≤ l.length) (h3 : ∀ x, l[n]? = some x → k ≤ x) : n = pos l k := by
  rcases Nat.lt_trichotomy n (pos l k) with h | h | h
  · have hl := pos_le l k
    have hx : l[n]? = some l[n] := List.getElem?_eq_getElem (by omega)
    have := pos_lt l k n _ h hx
    have := h3 _ hx
    omega
  · exact h
  · have hx : l[pos l k]? = some l[pos l k] := List.getElem?_eq_getElem (by omega)
    have := h1 _ _ h hx
    have := pos_at l k _ hx
    omega
theorem mem_wth {l : List Int} {k x : Int} : x ∈ wth l k ↔ x ∈ l ∨ x = k := by
  unfold wth
  split
  · rename_i h
    constructor
    · exact .inl
    · rintro (h' | rfl)
      · exact h'
      · exact List.mem_of_getElem? h
  · rw [List.mem_append, List.mem_cons]
    conv => rhs; rw [← List.take_append_drop (pos l k) l, List.mem_append]
    constructor
    · rintro (h | h | h)
      · exact .inl (.inl h)
      · exact .inr h
      · exact .inl (.inr h)
    · rintro ((h | h) | h)
      · exact .inl h
      · exact .inr (.inr h)
      · exact .inr (.inl h)
theorem rises_at {l : List Int} (h : Rises l) {i j : Nat} {x y : Int} (hij : i < j) (hx : l[i]? = some x) (hy : l[j]? = some y) : x < y := by
  obtain ⟨hi, rfl⟩ := List.getElem?_eq_some_iff.1 hx
  obtain ⟨hj, rfl⟩ := List.getElem?_eq_some_iff.1 hy
  exact List.pairwise_iff_getElem.1 h i j hi hj hij
theorem wth_rises {l : List Int} {k : Int} (h : Rises l) : Rises (wth l k) := by
  unfold wth
  split
  · exact h
  · rename_i hne
    unfold Rises
    have hgt : ∀ x, x ∈ l.drop (pos l k) → k < x := by
      intro x hx
      obtain ⟨i, hi⟩ := List.mem_iff_getElem?.1 hx
      rw [List.getElem?_drop] at hi
      have hp : ∃ y, l[pos l k]? = some y := ⟨l[pos l k]'(by
        have := (List.getElem?_eq_some_iff.1 hi).1
        omega), List.getElem?_eq_getElem _⟩
      obtain ⟨y, hy⟩ := hp
      have h1 := pos_at l k y hy
      have h2 : k ≠ y := fun e => hne (by rw [hy, e])
      rcases Nat.eq_zero_or_pos i with rfl | h0
      · rw [Nat.add_zero, hy] at hi
        cases hi
        omega
      · have := rises_at h (by omega) hy hi
        omega
    have hlt : ∀ x, x ∈ l.take (pos l k) → x < k := by
      intro x hx
      obtain ⟨i, hi⟩ := List.mem_iff_getElem?.1 hx
      have hil : i < pos l k := by
        have := (List.getElem?_eq_some_iff.1 hi).1
        rw [List.length_take] at this
        omega
      rw [List.getElem?_take_of_lt hil] at hi
      exact pos_lt l k i x hil hi
    rw [List.pairwise_append]
    refine ⟨h.sublist (List.take_sublist _ _), ?_, fun a ha b hb => ?_⟩
    · rw [List.pairwise_cons]
      exact ⟨hgt, h.sublist (List.drop_sublist _ _)⟩
    · rcases List.mem_cons.1 hb with rfl | hb
      · exact hlt a ha
      · exact Int.lt_trans (hlt a ha) (hgt b hb)
theorem wth_len (l : List Int) (k : Int) : (wth l k).length ≤ l.length + 1 := by
  unfold wth
  split
  · omega
  · rw [List.length_append, List.length_cons, List.length_take, List.length_drop]; omega
theorem wth_known {l : List Int} {k : Int} (h : Rises l) (hk : k ∈ l) : wth l k = l := by
  unfold wth
  rw [if_pos]
  obtain ⟨i, hi⟩ := List.mem_iff_getElem?.1 hk
  have : i = pos l k := pos_unique l k i (fun j x hj hx => rises_at h hj hx hi) (by have := (List.getElem?_eq_some_iff.1 hi).1; omega) (fun x hx => by rw [hi] at hx; cases hx; omega)
  rw [← this]; exact hi
theorem wth_new {l : List Int} {k : Int} (hk : k ∉ l) : (wth l k).length = l.length + 1 := by
  unfold wth
  rw [if_neg (fun h => hk (List.mem_of_getElem? h)), List.length_append, List.length_cons, List.length_take, List.length_drop]
  have := pos_le l k
  omega
theorem nodup_len : ∀ {l l' : List Int}, l.Nodup → (∀ x, x ∈ l → x ∈ l') → l.length ≤ l'.length
  | [], _, _, _ => Nat.zero_le _
  | a :: l, l', h, hs => by
    rw [List.nodup_cons] at h
    have ha : a ∈ l' := hs a (List.mem_cons_self ..)
    have := nodup_len (l := l) (l' := l'.erase a) h.2 (fun x hx => by
      have hne : x ≠ a := fun e => h.1 (e ▸ hx)
      exact (List.mem_erase_of_ne hne).2 (hs x (List.mem_cons_of_mem _ hx)))
    rw [List.length_erase_of_mem ha] at this
    have hp := List.length_pos_of_mem ha
    simp; omega
theorem Rises.nodup {l : List Int} (h : Rises l) : l.Nodup := h.imp (fun {_ _} h => Int.ne_of_lt h)
/-- the step of the sources' pipeline -/
def less : Stp := ⟨1, 0, 18318360957983683996⟩
/-- is the record kept? -/
def kp (r : Rc) : Bool := flt (canon r.val) 18318360957983683996
theorem run_less (r : Rc) : runOps (fun _ => less) 1 r = if kp r = true then (⟨r.key, canon r.val⟩, 1) else (⟨0, 0⟩, 2) := by
  have e : runOps (fun _ => less) 1 r = thru (fun _ => less) 1 0 ⟨r.key, canon r.val⟩ := rfl
  rw [e]
  show (if fate less (canon r.val) = 1 then thru (fun _ => less) 0 (0 + 1) ⟨nkey less r.key (canon r.val), nval less (canon r.val)⟩ else (⟨0, 0⟩, fate less (canon r.val))) = _
  have e2 : fate less (canon r.val) = if kp r = true then 1 else 2 := rfl
  rw [e2]
  by_cases h : kp r = true
  · rw [if_pos h, if_pos h, if_pos rfl]; rfl
  · rw [if_neg h, if_neg h, if_neg (by decide)]
/-- the key that the pipeline gives -/
def ky (r : Rc) : Int := if kp r = true then r.key else 0
theorem run_less_key (r : Rc) : (runOps (fun _ => less) 1 r).1.key = ky r := by
  rw [run_less]; unfold ky; split <;> rfl
theorem run_less_kept (r : Rc) : ((runOps (fun _ => less) 1 r).2 == 1) = kp r := by
  rw [run_less]
  cases h : kp r <;> rfl
theorem ky_ok {r : Rc} (h : r.ok) : 0 ≤ ky r ∧ ky r ≤ 18446744073709551615 := by
  unfold ky
  split
  · exact ⟨h.1, h.2.1⟩
  · omega
/-- the keys of records behind others -/
def kin (l : List Int) (rs : List Rc) : List Int := rs.foldl (fun l r => if kp r = true then wth l (ky r) else l) l
/-- .. of the first partitions -/
def kpre (s : St) : Nat → List Int
  | 0 => []
  | p + 1 => kin (kpre s p) (s.log p)
theorem kin_snoc (l : List Int) (rs : List Rc) (r : Rc) : kin l (rs ++ [r]) = if kp r = true then wth (kin l rs) (ky r) else kin l rs := by
  unfold kin
  rw [List.foldl_append]; rfl
theorem kin_rises {l : List Int} (h : Rises l) (rs : List Rc) : Rises (kin l rs) := by
  unfold kin
  induction rs generalizing l with
  | nil => exact h
  | cons r rs ih =>
    rw [List.foldl_cons]
    refine ih ?_
    split
    · exact wth_rises h
    · exact h
theorem kin_len (l : List Int) (rs : List Rc) : (kin l rs).length ≤ l.length + rs.length := by
  unfold kin
  induction rs generalizing l with
  | nil => simp
  | cons r rs ih =>
    rw [List.foldl_cons]
    refine Nat.le_trans (ih _) ?_
    rw [List.length_cons]
    split
    · have := wth_len l (ky r); omega
    · omega
theorem mem_kin {l : List Int} {rs : List Rc} {x : Int} : x ∈ kin l rs ↔ x ∈ l ∨ ∃ r, r ∈ rs ∧ kp r = true ∧ ky r = x := by
  unfold kin
  induction rs generalizing l with
  | nil => simp
  | cons r rs ih =>
    rw [List.foldl_cons, ih]
    by_cases h : kp r = true
    · rw [if_pos h, mem_wth]
      constructor
      · rintro ((h1 | rfl) | ⟨q, h2, h3⟩)
        · exact .inl h1
        · exact .inr ⟨r, List.mem_cons_self .., h, rfl⟩
        · exact .inr ⟨q, List.mem_cons_of_mem _ h2, h3⟩
      · rintro (h1 | ⟨q, h2, h3, h4⟩)
        · exact .inl (.inl h1)
        · rcases List.mem_cons.1 h2 with rfl | h2
          · exact .inl (.inr h4.symm)
          · exact .inr ⟨q, h2, h3, h4⟩
    · rw [if_neg h]
      constructor
      · rintro (h1 | ⟨q, h2, h3⟩)
        · exact .inl h1
        · exact .inr ⟨q, List.mem_cons_of_mem _ h2, h3⟩
      · rintro (h1 | ⟨q, h2, h3, h4⟩)
        · exact .inl h1
        · rcases List.mem_cons.1 h2 with rfl | h2
          · exact absurd h3 h
          · exact .inr ⟨q, h2, h3, h4⟩
theorem kpre_rises (s : St) : ∀ p, Rises (kpre s p)
  | 0 => List.Pairwise.nil
  | p + 1 => kin_rises (kpre_rises s p) _
theorem kpre_len {s : St} (hs : s.ok) : ∀ {p}, p ≤ s.n → (kpre s p).length ≤ p * 256
  | 0, _ => Nat.le_refl _
  | p + 1, h => by
    have h1 := kpre_len hs (p := p) (by omega)
    have h2 := kin_len (kpre s p) (s.log p)
    have h3 := hs.le p (by omega)
    show (kin (kpre s p) (s.log p)).length ≤ _
    omega
theorem mem_kpre {s : St} {x : Int} : ∀ {p}, x ∈ kpre s p ↔ ∃ q r, q < p ∧ r ∈ s.log q ∧ kp r = true ∧ ky r = x
  | 0 => by simp [kpre]
  | p + 1 => by
    show x ∈ kin (kpre s p) (s.log p) ↔ _
    rw [mem_kin, mem_kpre (p := p)]
    constructor
    · rintro (⟨q, r, h1, h2⟩ | ⟨r, h2⟩)
      · exact ⟨q, r, by omega, h2⟩
      · exact ⟨p, r, by omega, h2⟩
    · rintro ⟨q, r, h1, h2⟩
      by_cases hq : q = p
      · subst hq; exact .inr ⟨r, h2⟩
      · exact .inl ⟨q, r, by omega, h2⟩
end Go.Proofs.Ytbckfoldjlgabaa
namespace Go.Proofs.Ytbckfoldjlgabaa
open Go.RowKit
open Fl (nan key canon)
def unc (p : Nat → Int) (i : Nat) : List Value := [.int .u64 (p i)]
theorem unc_len (p : Nat → Int) (i : Nat) : (unc p i).length = 1 := rfl
theorem unc_one (p : Nat → Int) (i : Nat) (u : Value) (h : u ∈ unc p i) : u.oneCell' = true := by
  simp only [unc, List.mem_cons, List.not_mem_nil, or_false] at h
  subst h; rfl
theorem unc_set {n i : Nat} {p p' : Nat → Int} {rest : List Value} (hi : i < n) (h : ∀ j, j < n → j ≠ i → p j = p' j) : (flat (unc p) n ++ rest).set i (.int .u64 (p' i)) = flat (unc p') n ++ rest := by
  have hl : (flat (unc p) n).length = n := by rw [flat_len (unc_len p)]; omega
  have hl' : (flat (unc p') n).length = n := by rw [flat_len (unc_len p')]; omega
  rw [List.set_append_left _ _ (by rw [hl]; exact hi)]
  congr 1
  apply List.ext_getElem?
  intro k
  by_cases hk : k < n
  · have e1 := flat_get (el := unc p') (unc_len p') (k := 0) (by decide) hk
    have e2 := flat_get (el := unc p) (unc_len p) (k := 0) (by decide) hk
    rw [Nat.mul_one, Nat.add_zero] at e1 e2
    rw [List.getElem?_set]
    by_cases hik : i = k
    · subst hik
      rw [if_pos rfl, if_pos (by rw [hl]; exact hi), e1]; rfl
    · rw [if_neg hik, e1, e2]
      simp only [unc, h k hk (Ne.symm hik)]
  · rw [List.getElem?_eq_none (by rw [List.length_set, hl]; omega), List.getElem?_eq_none (by rw [hl']; omega)]
theorem unc_at {n i : Nat} {p : Nat → Int} {rest : List Value} (hi : i < n) : (flat (unc p) n ++ rest)[i]? = some (.int .u64 (p i)) := by
  have hl : (flat (unc p) n).length = n := by rw [flat_len (unc_len p)]; omega
  have e2 := flat_get (el := unc p) (unc_len p) (k := 0) (by decide) hi
  rw [Nat.mul_one, Nat.add_zero] at e2
  rw [List.getElem?_append_left (by rw [hl]; exact hi), e2]; rfl
theorem infoU : (Try.prog.info? 63).map (fun i => (i.zero, i.size, i.bytes)) = some (some (.int .u64 0), 1, 8) := by kernel_rfl
/-- v is a slice of the call's own, these keys lie in it -/
def OwnU (w : World) (base : Nat) (v : Value) (l : List Int) : Prop :=
  ∃ n p, l = toL n p ∧ (∀ i, i < n → 0 ≤ p i ∧ p i ≤ 18446744073709551615) ∧ w.ownsRow base 63 1 v n (flat (unc p) n) ∧ n ≤ 100000
/-- the keys of which those behind i have gone one place up -/
def shf (p : Nat → Int) (n i j : Nat) : Int := if j ≤ i then (if j < n then p j else 0) else p (j - 1)
/-- .. and k lies at place i -/
def put (p : Nat → Int) (i : Nat) (k : Int) (j : Nat) : Int := if j < i then p j else if j = i then k else p (j - 1)
theorem both_shf (p : Nat → Int) (n j : Nat) (hj : j < n + 1) : both (unc p) n (unc (fun _ => 0)) j = unc (shf p n n) j := by
  by_cases h : j < n
  · simp only [both, unc, shf, if_pos h, if_pos (show j ≤ n by omega)]
  · simp only [both, unc, shf, if_neg h, if_pos (show j ≤ n by omega)]
theorem put_ok {p : Nat → Int} {n i : Nat} {k : Int} (hin : i ≤ n) (h : ∀ i, i < n → 0 ≤ p i ∧ p i ≤ 18446744073709551615) (hk : 0 ≤ k ∧ k ≤ 18446744073709551615) (j : Nat) (hj : j < n + 1) : 0 ≤ put p i k j ∧ put p i k j ≤ 18446744073709551615 := by
  unfold put
  split
  · exact h j (by omega)
  · split
    · exact hk
    · exact h (j - 1) (by omega)
theorem wth_put {p : Nat → Int} {n i : Nat} {k : Int} (hin : i ≤ n) (hp : i = pos (toL n p) k) (hn : (toL n p)[pos (toL n p) k]? ≠ some k) : wth (toL n p) k = toL (n + 1) (put p i k) := by
  unfold wth
  rw [if_neg hn, ← hp]
  apply List.ext_getElem?
  intro j
  have hl : ((toL n p).take i).length = i := by rw [List.length_take, toL_len]; omega
  by_cases h1 : j < i
  · rw [List.getElem?_append_left (by omega), List.getElem?_take_of_lt h1, toL_get (by omega), toL_get (by omega)]
    unfold put
    rw [if_pos h1]
  · rw [List.getElem?_append_right (by omega), hl]
    by_cases h2 : j = i
    · subst h2
      rw [Nat.sub_self, toL_get (by omega)]
      unfold put
      rw [if_neg h1, if_pos rfl]; rfl
    · rw [show j - i = (j - i - 1) + 1 by omega, List.getElem?_cons_succ, List.getElem?_drop, show i + (j - i - 1) = j - 1 by omega]
      by_cases h3 : j < n + 1
      · rw [toL_get (by omega), toL_get h3]
        unfold put
        rw [if_neg h1, if_neg h2]
      · rw [List.getElem?_eq_none (by rw [toL_len]; omega), List.getElem?_eq_none (by rw [toL_len]; omega)]
/-- len at the operation -/
theorem wpList_len_slice {P : Program} {w : World} {ops : Array Oper} {rest : List Oper} {o : Oper} {a : Act} {Q : Exit → Act → World → Prop} (hg : o.guard = none) (x : Operand) (t : TypeId) (hop : o.op = .call { callee := .builtin .len, args := #[x], argTypes := #[t] })
    {e : TypeId} (ht : P.underlying t = some (.slice e)) {b : Option Addr} {n c : Nat} (hx : a.eval x = .slice b n c) (z : Int) (hz : z = n) (hK : wpList P ops Q rest (a.put o.dst (.int .i64 z)) w) : wpList P ops Q (o :: rest) a w := by
  refine wpList_plain hg fun K' hK' => ?_
  subst hz
  have hrun : (Builtin.len_ #[t] o.type #[.slice b n c]).run P w = .ok (.int .i64 n) w := by simp [Builtin.len_, run_underlying ht, goInt]
  unfold Oper.wp
  simp [execOp, hop, resolve, invoke, builtin, hx, hrun, Result.andThen]
  exact hK' _ _ hK
theorem some_row {w : World} {base : Nat} {e : TypeId} {m : Nat} {v : Value} {n : Nat} {xs : List Value} (h : w.ownsRow base e m v n xs) (hn : 0 < n) : ∃ g cap, v = .slice (some ⟨g, 0, none⟩) n cap := by
  rcases h.2 with ⟨_, h0⟩ | ⟨g, cap, cur, rfl, _⟩
  · omega
  · exact ⟨g, cap, rfl⟩
theorem zero_lies (w : World) : Lies (w.alloc (.cells #[.int .u64 0] 63)) w.heap.size 0 1 (unc (fun _ => 0)) 1 :=
  Blk.flat (N := 1) (t := 63) (Blk.new [.int .u64 0] _ rfl) (fun _ => rfl) (Nat.le_refl _)
set_option maxRecDepth 100000 in
set_option maxHeartbeats 8000000 in
theorem with_any {w : World} {base : Nat} {v : Value} {l : List Int} {k : Int} (h : OwnU w base v l) (hbase : base ≤ w.heap.size) (hk : 0 ≤ k ∧ k ≤ 18446744073709551615) (hlen : l.length ≤ 50000) :
    Calls Try.prog 57 #[v, .int .u64 k] w fun e w' => ∃ v', e = .returned v' ∧ OwnU w' base v' (wth l k) ∧ Below base w w' := by
  obtain ⟨i0, hi, hz0, hz1, hz2⟩ := info_parts infoU
  obtain ⟨n, p, rfl, hp, ho, hn⟩ := h
  rw [toL_len] at hlen
  have HOW := Lib.hid ho
  have HOK := Lib.hid hp
  obtain ⟨a, cap, g0, rfl, ha, hcell⟩ : ∃ a cap g0, v = .slice a n cap ∧ (0 < n → a = some ⟨g0, 0, none⟩) ∧ (0 < n → Lies w g0 0 1 (unc p) n) := by
    rcases ho.2 with ⟨rfl, rfl⟩ | ⟨g, cap, cur, rfl, _⟩
    · exact ⟨none, 0, 0, rfl, fun h => absurd h (Nat.lt_irrefl _), fun h => absurd h (Nat.lt_irrefl _)⟩
    · exact ⟨_, cap, g, rfl, fun _ => rfl, fun _ => ownsRow_lies ho (unc_len p)⟩
  have HA := Lib.hid ha
  have HC := Lib.hid hcell
  clear ho hp ha hcell hn
  go_enter Try.func57, Try.ntmps57
  go_wp2_with fail
  go_loopg [5] n (fun q s5 wr => ∃ (i : Nat), i ≤ n ∧ q = n - i ∧ s5 = .int .i64 i ∧ (∀ j, j < i → p j < k) ∧ w = wr)
  case atStart => exact ⟨0, Nat.zero_le _, rfl, rfl, fun j hj => absurd hj (Nat.not_lt_zero _), rfl⟩
  case round =>
    obtain ⟨at_, hi5, rfl, rfl, hall, rfl⟩ := hrel
    have HALL := Lib.hid hall
    clear hall
    by_cases hlt : at_ < n
    · obtain rfl := HA.out (by omega)
      have hz4 : (at_ : Int) < (n : Int) := by omega
      have hw1 : IntKind.i64.wrap ((at_ : Int) + 1) = (at_ : Int) + 1 := Go.IntWalk.i64_in _ (by omega)
      have hc := HC.out (by omega)
      have x0 : w.cell? ⟨g0, at_, none⟩ = some (.int .u64 (p at_)) := by
        have := hc.at_ at_ 0 hlt (by decide)
        rw [Nat.zero_add, Nat.mul_one, Nat.add_zero] at this
        exact this
      have z1 := hc.lt
      clear hc
      by_cases hpk : p at_ < k
      · have HPK := Lib.hid hpk
        go_wp2_with fail
        go_roundg (n - (at_ + 1))
        case measure => omega
        case rel => exact ⟨at_ + 1, hlt, rfl, (by first | rfl | simp), fun j hj => by
          rcases Nat.lt_or_ge j at_ with h1 | h1
          · exact HALL.out j h1
          · obtain rfl : j = at_ := by omega
            exact HPK.out, rfl⟩
      · have hpk2 : (p at_ < k) = False := eq_false hpk
        have HPOS : Hid (at_ = pos (toL n p) k) := Lib.hid (pos_unique _ _ _ (fun j x hj hx => by rw [toL_get (by omega)] at hx; cases hx; exact HALL.out j hj) (by rw [toL_len]; omega) (fun x hx => by rw [toL_get hlt] at hx; cases hx; omega))
        by_cases hpe : p at_ = k
        · have hpe2 : (p at_ == k) = true := by rw [hpe]; simp
          have hfin : wth (toL n p) k = toL n p := by unfold wth; rw [if_pos (by rw [← HPOS.out, toL_get hlt, hpe])]
          have HFIN := Lib.hid hfin
          clear hfin hpk hpe HALL HC
          go_wp2_with fail
          go_ret
          exact ⟨_, rfl, by rw [HFIN.out]; exact ⟨n, p, rfl, HOK.out, HOW.out, by omega⟩, Below.refl _ _⟩
        · have hpe2 : (p at_ == k) = false := by simpa using hpe
          have HPE : Hid (p at_ ≠ k) := Lib.hid hpe
          clear hpk hpe HC
          have HAT : Hid (at_ = pos (toL n p) k) := HPOS
          have HNK : Hid ((toL n p)[pos (toL n p) k]? ≠ some k) := Lib.hid (by rw [← HPOS.out, toL_get hlt]; intro e; exact HPE.out (Option.some.inj e))
          clear HALL
          have L2 : Hid (Lies (w.alloc (.cells #[.int .u64 0] 63)) w.heap.size 0 1 (unc (fun _ => 0)) 1) := Lib.hid (zero_lies w)
          have HOA : Hid ((w.alloc (.cells #[.int .u64 0] 63)).ownsRow base 63 1 (.slice (some ⟨g0, 0, none⟩) n cap) n (flat (unc p) n)) := Lib.hid (HOW.out.alloc _)
          go_wp2_with (first | (at_len; refine wpList_len_slice rfl (.tmp 37) 102 rfl Try.underlying102 rfl ((n : Int) + 1) (by omega) ?_) | (at_builtin; refine wpList_append_any _ rfl (.tmp 34) (.tmp 35) 102 rfl base 63 i0 _ 1 8 Try.underlying102 hi hz0 hz1 hz2 rfl (by decide) _ n (unc p) rfl HOA.out _ 1 1 w.heap.size 0 rfl (unc (fun _ => 0)) (unc_len _) (unc_one _) (fun _ => rfl) (fun _ => L2.out) (by unfold maxLen; omega) (by omega) (by simp; omega) ?_; intro v' w1 own1 grow1 hat1; obtain ⟨g, cap1, rfl⟩ := some_row own1 (by omega)))
          have p1 : Below base w w1 := ((Below.refl _ _).alloc hbase _).grown grow1 (by simp; omega) (fun q hq => (HOW.out.lt q hq).1)
          clear grow1 hat1 HOA L2
          obtain ⟨_, hg, hc1, hc2, rest, hrl, hB⟩ := ownsRow_blk own1
          have HK : Hid (rest.length = (cap1 - (n + 1)) * 1 ∧ n + 1 ≤ cap1 ∧ cap1 ≤ maxLen ∧ base ≤ g) := Lib.hid ⟨hrl, hc1, hc2, hg⟩
          have hb0 : Blk w1 g (flat (unc (shf p n n)) (n + 1) ++ rest) 63 := by
            rw [flat_congr (el' := unc (shf p n n)) (fun j hj => both_shf p n j hj)] at hB
            exact hB
          have hgs : g < w1.heap.size := hb0.lt
          have hw5 : IntKind.i64.wrap ((n : Int) + 1 - 1) = (n : Int) := by rw [show (n : Int) + 1 - 1 = n by omega]; exact Go.IntWalk.i64_in _ (by omega)
          clear own1 hB hrl hc1 hc2 hg
          go_wp2_with fail
          go_loopg [6] (n - at_) (fun q s6 wr => ∃ (i : Nat), at_ ≤ i ∧ i ≤ n ∧ q = i - at_ ∧ s6 = .int .i64 i ∧ Blk wr g (flat (unc (shf p n i)) (n + 1) ++ rest) 63 ∧ Below base w wr)
          case atStart => exact ⟨n, hi5, Nat.le_refl _, rfl, (by first | rfl | simp), hb0, p1⟩
          case round =>
            clear hb0 p1 hgs
            obtain ⟨i, hai, hin, rfl, rfl, blk, q⟩ := hrel
            have hgs := blk.lt
            by_cases hgt : at_ < i
            · have z1 : (at_ : Int) < (i : Int) := by omega
              have z2 : IntKind.i64.wrap ((i : Int) - 1) = (i : Int) - 1 := Go.IntWalk.i64_in _ (by omega)
              have z3 : (0 : Int) ≤ (i : Int) - 1 ∧ (i : Int) - 1 < (n : Int) + 1 := by omega
              have z4 : ((i : Int) - 1).toNat = i - 1 := by omega
              have z5 : (i : Int) < (n : Int) + 1 := by omega
              have c1 : wr.cell? ⟨g, i - 1, none⟩ = some (.int .u64 (p (i - 1))) := (blk.cell (i - 1)).trans (by rw [unc_at (by omega)]; unfold shf; rw [if_pos (by omega), if_pos (by omega)])
              have c2 : wr.cell? ⟨g, i, none⟩ = some (.int .u64 (shf p n i i)) := (blk.cell i).trans (unc_at (by omega))
              have f2 := blk.free i
              have b2 := blk.set i (.int .u64 (p (i - 1)))
              have e2 := unc_set (rest := rest) (p := shf p n i) (p' := shf p n (i - 1)) (n := n + 1) (i := i) (by omega) (fun j hj hji => by
                unfold shf
                by_cases h1 : j ≤ i
                · simp only [if_pos h1, if_pos (show j ≤ i - 1 by omega)]
                · simp only [if_neg h1, if_neg (show ¬ j ≤ i - 1 by omega)])
              rw [show shf p n (i - 1) i = p (i - 1) by unfold shf; rw [if_neg (by omega)]] at e2
              rw [e2] at b2
              have HB2 := Lib.hid b2
              have q2 := q.setCell (p := ⟨g, i, none⟩) HK.out.2.2.2 (.int .u64 (p (i - 1)))
              have HQ2 := Lib.hid q2
              generalize shf p n i i = old at *
              clear b2 e2 q2 blk q
              go_wp2_with fail
              go_roundg (i - 1 - at_)
              case measure => omega
              case rel => exact ⟨i - 1, by omega, by omega, rfl, (by simp; omega), HB2.out, HQ2.out⟩
            · obtain rfl : at_ = i := by omega
              have z1 : ¬ ((at_ : Int) < (at_ : Int)) := by omega
              have z5 : (at_ : Int) < (n : Int) + 1 := by omega
              have c2 : wr.cell? ⟨g, at_, none⟩ = some (.int .u64 (shf p n at_ at_)) := (blk.cell at_).trans (unc_at (by omega))
              have f2 := blk.free at_
              have b2 := blk.set at_ (.int .u64 k)
              have e2 := unc_set (rest := rest) (p := shf p n at_) (p' := put p at_ k) (n := n + 1) (i := at_) (by omega) (fun j hj hji => by
                unfold shf put
                by_cases h1 : j < at_
                · simp only [if_pos (show j ≤ at_ by omega), if_pos (show j < n by omega), if_pos h1]
                · simp only [if_neg (show ¬ j ≤ at_ by omega), if_neg h1, if_neg hji])
              rw [show put p at_ k at_ = k by unfold put; rw [if_neg (by omega), if_pos rfl]] at e2
              rw [e2] at b2
              have q2 := q.setCell (p := ⟨g, at_, none⟩) HK.out.2.2.2 (.int .u64 k)
              have own := blk_ownsRow (n := n + 1) (m := 1) (xs := flat (unc (put p at_ k)) (n + 1)) (flat_len (unc_len _) _) HK.out.2.2.2 HK.out.2.1 HK.out.2.2.1 HK.out.1 b2
              have fin : OwnU (wr.setCell ⟨g, at_, none⟩ (.int .u64 k)) base (.slice (some ⟨g, 0, none⟩) (n + 1) cap1) (wth (toL n p) k) := ⟨n + 1, put p at_ k, wth_put hin HAT.out HNK.out, put_ok hin HOK.out hk, own, by omega⟩
              have HFIN := Lib.hid fin
              have HQ2 := Lib.hid q2
              generalize shf p n at_ at_ = old at *
              clear b2 e2 q2 blk q own fin
              go_wp2_with fail
              go_ret
              exact ⟨_, rfl, HFIN.out, HQ2.out⟩
    · obtain rfl : n = at_ := by omega
      have hz4 : ¬ ((n : Int) < (n : Int)) := by omega
      have HPOS : Hid (n = pos (toL n p) k) := Lib.hid (pos_unique _ _ _ (fun j x hj hx => by rw [toL_get (by omega)] at hx; cases hx; exact HALL.out j hj) (by rw [toL_len]; omega) (fun x hx => by rw [List.getElem?_eq_none (by rw [toL_len]; omega)] at hx; cases hx))
      clear HC
      have HAT : Hid (n = pos (toL n p) k) := HPOS
      have HNK : Hid ((toL n p)[pos (toL n p) k]? ≠ some k) := Lib.hid (by rw [List.getElem?_eq_none (by rw [← HPOS.out, toL_len]; omega)]; intro e; cases e)
      clear HALL
      have L2 : Hid (Lies (w.alloc (.cells #[.int .u64 0] 63)) w.heap.size 0 1 (unc (fun _ => 0)) 1) := Lib.hid (zero_lies w)
      have HOA : Hid ((w.alloc (.cells #[.int .u64 0] 63)).ownsRow base 63 1 (.slice a n cap) n (flat (unc p) n)) := Lib.hid (HOW.out.alloc _)
      go_wp2_with (first | (at_len; refine wpList_len_slice rfl (.tmp 37) 102 rfl Try.underlying102 rfl ((n : Int) + 1) (by omega) ?_) | (at_builtin; refine wpList_append_any _ rfl (.tmp 34) (.tmp 35) 102 rfl base 63 i0 _ 1 8 Try.underlying102 hi hz0 hz1 hz2 rfl (by decide) _ n (unc p) rfl HOA.out _ 1 1 w.heap.size 0 rfl (unc (fun _ => 0)) (unc_len _) (unc_one _) (fun _ => rfl) (fun _ => L2.out) (by unfold maxLen; omega) (by omega) (by simp; omega) ?_; intro v' w1 own1 grow1 hat1; obtain ⟨g, cap1, rfl⟩ := some_row own1 (by omega)))
      have p1 : Below base w w1 := ((Below.refl _ _).alloc hbase _).grown grow1 (by simp; omega) (fun q hq => (HOW.out.lt q hq).1)
      clear grow1 hat1 HOA L2
      obtain ⟨_, hg, hc1, hc2, rest, hrl, hB⟩ := ownsRow_blk own1
      have HK : Hid (rest.length = (cap1 - (n + 1)) * 1 ∧ n + 1 ≤ cap1 ∧ cap1 ≤ maxLen ∧ base ≤ g) := Lib.hid ⟨hrl, hc1, hc2, hg⟩
      have hb0 : Blk w1 g (flat (unc (shf p n n)) (n + 1) ++ rest) 63 := by
        rw [flat_congr (el' := unc (shf p n n)) (fun j hj => both_shf p n j hj)] at hB
        exact hB
      have hgs : g < w1.heap.size := hb0.lt
      have hw5 : IntKind.i64.wrap ((n : Int) + 1 - 1) = (n : Int) := by rw [show (n : Int) + 1 - 1 = n by omega]; exact Go.IntWalk.i64_in _ (by omega)
      clear own1 hB hrl hc1 hc2 hg
      go_wp2_with fail
      go_loopg [6] (n - n) (fun q s6 wr => ∃ (i : Nat), n ≤ i ∧ i ≤ n ∧ q = i - n ∧ s6 = .int .i64 i ∧ Blk wr g (flat (unc (shf p n i)) (n + 1) ++ rest) 63 ∧ Below base w wr)
      case atStart => exact ⟨n, hi5, Nat.le_refl _, rfl, (by first | rfl | simp), hb0, p1⟩
      case round =>
        clear hb0 p1 hgs
        obtain ⟨i, hai, hin, rfl, rfl, blk, q⟩ := hrel
        have hgs := blk.lt
        by_cases hgt : n < i
        · exact absurd hgt (by omega)
        · obtain rfl : n = i := by omega
          have z1 : ¬ ((n : Int) < (n : Int)) := by omega
          have z5 : (n : Int) < (n : Int) + 1 := by omega
          have c2 : wr.cell? ⟨g, n, none⟩ = some (.int .u64 (shf p n n n)) := (blk.cell n).trans (unc_at (by omega))
          have f2 := blk.free n
          have b2 := blk.set n (.int .u64 k)
          have e2 := unc_set (rest := rest) (p := shf p n n) (p' := put p n k) (n := n + 1) (i := n) (by omega) (fun j hj hji => by
            unfold shf put
            by_cases h1 : j < n
            · simp only [if_pos (show j ≤ n by omega), if_pos (show j < n by omega)]
            · simp only [if_neg (show ¬ j ≤ n by omega), if_neg h1, if_neg hji])
          rw [show put p n k n = k by unfold put; rw [if_neg (by omega), if_pos rfl]] at e2
          rw [e2] at b2
          have q2 := q.setCell (p := ⟨g, n, none⟩) HK.out.2.2.2 (.int .u64 k)
          have own := blk_ownsRow (n := n + 1) (m := 1) (xs := flat (unc (put p n k)) (n + 1)) (flat_len (unc_len _) _) HK.out.2.2.2 HK.out.2.1 HK.out.2.2.1 HK.out.1 b2
          have fin : OwnU (wr.setCell ⟨g, n, none⟩ (.int .u64 k)) base (.slice (some ⟨g, 0, none⟩) (n + 1) cap1) (wth (toL n p) k) := ⟨n + 1, put p n k, wth_put hin HAT.out HNK.out, put_ok hin HOK.out hk, own, by omega⟩
          have HFIN := Lib.hid fin
          have HQ2 := Lib.hid q2
          generalize shf p n n n = old at *
          clear b2 e2 q2 blk q own fin
          go_wp2_with fail
          go_ret
          exact ⟨_, rfl, HFIN.out, HQ2.out⟩
end Go.Proofs.Ytbckfoldjlgabaa
namespace Go.Proofs.Ytbckfoldjlgabaa
open Go.RowKit
open Fl (nan key canon)
theorem OwnU.keep {w w' : World} {base : Nat} {v : Value} {l : List Int} (h : OwnU w base v l) (hb : Below w.heap.size w w') : OwnU w' base v l :=
  let ⟨n, p, h1, h2, h3, h4⟩ := h
  ⟨n, p, h1, h2, ownsRow_below h3 hb, h4⟩
theorem OwnU.made (w : World) : OwnU (w.alloc (.cells #[] 63)) w.heap.size (.slice (some ⟨w.heap.size, 0, none⟩) 0 0) [] := ⟨0, fun _ => 0, rfl, fun i hi => absurd hi (Nat.not_lt_zero _), owns_none w _ _ _, by omega⟩
/-- the pipeline of a source lies in its list -/
structure Lst (w : World) (lv : Value) : Prop where
  own : w.ownsRow 0 73 3 lv 1 (flat (stc (fun _ => less)) 1)
theorem less_ok : less.ok := ⟨by decide, by decide, by decide, by decide, by decide⟩
theorem Lst.out {w : World} {lv : Value} (h : Lst w lv) : ∃ lb cap, lv = .slice (some ⟨lb, 0, none⟩) 1 cap ∧ Stps w lb 0 1 (fun _ => less) := by
  have ho := h.own
  obtain ⟨lb, cap, rfl⟩ := some_row ho (by decide)
  exact ⟨lb, cap, rfl, (ownsRow_lies ho (stc_len _)).stps' (fun _ _ => less_ok)⟩
theorem Lst.keep {w w' : World} {lv : Value} (h : Lst w lv) (hb : Below w.heap.size w w') : Lst w' lv := ⟨ownsRow_below h.own hb⟩
theorem kin_take (l : List Int) (n i : Nat) (r : Nat → Rc) (hi : i < n) : kin l ((toL n r).take (i + 1)) = if kp (r i) = true then wth (kin l ((toL n r).take i)) (ky (r i)) else kin l ((toL n r).take i) := by
  rw [List.take_add_one, toL_get hi]
  exact kin_snoc _ _ _
section
variable {w : World} {tb gb ob : Nat} {lv : Value} {lg : Nat → Value} {s : St}
theorem rkey_less {w : World} {lv : Value} {r : Rc} (h : Lst w lv) (hok : r.ok) : Calls Try.prog 55 #[lv, .agg #[.int .u64 r.key, .float .f64 r.val]] w fun e w' => e = .returned (.tuple #[.int .u64 (ky r), .bool (kp r)]) ∧ Below w.heap.size w w' := by
  obtain ⟨lb, cap, rfl, hst⟩ := h.out
  have := rkey_any (some ⟨lb, 0, none⟩) 1 cap lb 0 (fun _ => less) r w (by omega) (fun _ => rfl) (fun _ => hst) hok
  rw [run_less_key, run_less_kept] at this
  exact this
theorem skey_less {w : World} {lv : Value} {r : Rc} (h : Lst w lv) (hok : r.ok) : Calls Try.prog 53 #[lv, .agg #[.int .u64 r.key, .float .f64 r.val]] w fun e w' => e = .returned (.tuple #[.int .u64 (ky r), .bool (kp r)]) ∧ Below w.heap.size w w' := by
  obtain ⟨lb, cap, rfl, hst⟩ := h.out
  have := key_any (some ⟨lb, 0, none⟩) 1 cap lb 0 (fun _ => less) r w (by omega) (fun _ => rfl) (fun _ => hst) hok
  rw [run_less_key, run_less_kept] at this
  exact this
set_option maxRecDepth 100000 in
set_option maxHeartbeats 8000000 in
theorem keys_any (hs : RSrc w tb gb ob lv lg s) (hl : Lst w lv) :
    Calls Try.prog 56 #[.pointer (some ⟨tb, 0, none⟩)] w fun e w' => ∃ v, e = .returned v ∧ OwnU w' w.heap.size v (kpre s s.n) ∧ Below w.heap.size w w' := by
  have HS := Lib.hid hs
  have HLS := Lib.hid hl
  have C0 := Lib.hid (fun W (hW : Below w.heap.size w W) => rparts_any (hs.keep hW))
  have hn4 := hs.ok.n4
  obtain ⟨N, hN⟩ : ∃ N, s.n = N := ⟨_, rfl⟩
  have HN := Lib.hid hN
  have z0 := hs.h0
  have z2 := hs.h2
  have y1 := hs.hd.lt
  have y2 := hs.gs.lt
  rw [hN] at hn4 C0 z0
  rw [hN]
  have Z0 := Lib.hid z0
  have Z2 := Lib.hid z2
  have Y1 := Lib.hid y1
  have Y2 := Lib.hid y2
  clear hN hs hl z0 z2 y1 y2
  go_enter Try.func56, Try.ntmps56
  go_wp2_with fail
  go_loopg [3, 4] N (fun g s3 s4 wr => ∃ (i : Nat), i ≤ N ∧ g = N - i ∧ s4 = .int .i64 i ∧ OwnU wr w.heap.size s3 (kpre s i) ∧ Below w.heap.size w wr)
  case atStart => exact ⟨0, Nat.zero_le _, rfl, rfl, OwnU.made w, (by repeat' (first | with_reducible exact Below.refl _ _ | with_reducible assumption | with_reducible refine bel_drew ?_ | with_reducible refine bel_alloc ?_ _ | with_reducible refine bel_set ?_ ?_ _ | with_reducible refine bel_call ?_ (by assumption) | (dsimp only; omega) | (simp; done) | (simp; omega)))⟩
  case round =>
    obtain ⟨p, hi, rfl, rfl, own, q⟩ := hrel
    have HO := Lib.hid own
    have HQ := Lib.hid q
    have C1 := Lib.hid (C0.out _ q)
    by_cases hlt : p < N
    · have hz2 : (p : Int) < (N : Int) := by omega
      have hw1 : IntKind.i64.wrap ((p : Int) + 1) = (p : Int) + 1 := Go.IntWalk.i64_in _ (by omega)
      have hp' : p < s.n := HN.out ▸ hlt
      have hle := HS.out.ok.le p hp'
      have hkl := kpre_len HS.out.ok (p := p) (by omega)
      obtain ⟨a, n, cap, b, o, r, hv, hlr, ha, hr, _⟩ := (HS.out.rc p hp').recs
      have c0 := HS.out.c0 hp'
      rw [hv] at c0
      rw [hlr, toL_len] at hle
      have X0 := Lib.hid c0
      have HA := Lib.hid ha
      have HR := Lib.hid hr
      have HE : Hid (kin (kpre s p) (toL n r) = kpre s (p + 1)) := Lib.hid (by rw [← hlr]; rfl)
      have hk0 : kpre s p = kin (kpre s p) ((toL n r).take 0) := rfl
      generalize kpre s p = L0 at *
      rw [hk0] at own
      clear hk0 c0 ha hr hv hlr HO
      have HO := Lib.hid own
      clear own q
      go_wp2_with fail
      refine C1.out.mono ?_
      rintro e w' ⟨rfl, rfl⟩
      clear C1
      go_wp2_with fail
      go_loopg [3, 5] n (fun g s3 s5 wr2 => ∃ (i : Nat), i ≤ n ∧ g = n - i ∧ s5 = .int .i64 i ∧ OwnU wr2 w.heap.size s3 (kin L0 ((toL n r).take i)) ∧ Below w.heap.size w wr2)
      case atStart => exact ⟨0, Nat.zero_le _, rfl, rfl, HO.out, HQ.out⟩
      case round =>
        clear HO HQ
        obtain ⟨i, hin, rfl, rfl, own, q⟩ := hrel
        have HO := Lib.hid own
        clear own
        have z0 : wr.cell? ⟨tb, 0, none⟩ = some (.slice (some ⟨gb, 0, none⟩) N N) := (q.cell (p := ⟨tb, 0, none⟩) Y1.out).trans Z0.out
        have z2 : wr.cell? ⟨tb, 2, none⟩ = some lv := (q.cell (p := ⟨tb, 2, none⟩) Y1.out).trans Z2.out
        have x0 : wr.cell? ⟨gb, p, none⟩ = some (.slice a n cap) := (q.cell (p := ⟨gb, p, none⟩) Y2.out).trans X0.out
        have n0 : tb < wr.heap.size := Nat.lt_of_lt_of_le Y1.out q.size
        have n1 : gb < wr.heap.size := Nat.lt_of_lt_of_le Y2.out q.size
        by_cases hil : i < n
        · obtain rfl := HA.out (by omega)
          have r1 := HR.out (by omega)
          have x1 : wr.cell? ⟨b, o + i * 2, none⟩ = some (.int .u64 (r i).key) := (q.cell (p := ⟨b, o + (i * 2 + 0), none⟩) r1.lt).trans (r1.c0 i hil)
          have x2 : wr.cell? ⟨b, o + i * 2 + 1, none⟩ = some (.float .f64 (r i).val) := (q.cell (p := ⟨b, o + (i * 2 + 1), none⟩) r1.lt).trans (r1.c1 i hil)
          have n2 : b < wr.heap.size := Nat.lt_of_lt_of_le r1.lt q.size
          have hok := r1.ok i hil
          have hz3 : (i : Int) < (n : Int) := by omega
          have hw2 : IntKind.i64.wrap ((i : Int) + 1) = (i : Int) + 1 := Go.IntWalk.i64_in _ (by omega)
          have C4 := Lib.hid (fun W (hW : Below w.heap.size w W) => rkey_less (r := r i) (HLS.out.keep hW) hok)
          have hst := kin_take L0 n i r hil
          have HKY := Lib.hid (ky_ok hok)
          have hlen : (kin L0 ((toL n r).take i)).length ≤ 50000 := by
            have h1 := kin_len L0 ((toL n r).take i)
            rw [List.length_take, toL_len] at h1
            omega
          have HLN := Lib.hid hlen
          clear r1 hok hlen
          generalize kin L0 ((toL n r).take i) = L1 at *
          generalize ky (r i) = kk at *
          cases hkp : kp (r i) with
          | true =>
            rw [hkp, if_pos rfl] at hst
            rw [hkp] at C4
            have HST := Lib.hid hst
            clear hst hkp
            go_wp2_with fail
            refine wp_region_below (by kernel_rfl) (by kernel_rfl) ?_
            iterate 20 (first | (refine lex_skip (by rfl) (fun _ _ _ _ h => h) ?_; simp only [Act.put, List.setIfInBounds_toArray, List.set_cons_zero, List.set_cons_succ]) | (refine lex_op (by rfl) ?_; apply Exists.intro; refine ⟨?_, ?_⟩; ((intro _ _ _ _ hT; obtain ⟨hc, hf⟩ := bcell hT; go_simp; first | exact rfl | exact call_below hT (C4.out _ (q.trans (hT.mono q.size))))); simp only [Act.put, List.setIfInBounds_toArray, List.set_cons_zero, List.set_cons_succ]))
            refine lex_nil ?_
            intro w5 bel5
            have p5 : Below w.heap.size w w5 := q.trans (bel5.mono q.size)
            have HO5 := Lib.hid (HO.out.keep bel5)
            clear bel5 x1 x2 x0 z0 z2 n0 n1 n2 q HO C4
            go_wp2_with fail
            refine (with_any HO5.out p5.size HKY.out HLN.out).mono ?_
            rintro e w6 ⟨v6, rfl, own6, b6⟩
            have p6 : Below w.heap.size w w6 := p5.trans b6
            rw [← HST.out] at own6
            clear b6 p5 HO5
            go_wp2_with fail
            go_roundg (n - (i + 1))
            case measure => omega
            case rel => exact ⟨i + 1, hil, rfl, (by first | rfl | simp), own6, p6⟩
          | false =>
            rw [hkp, if_neg (by decide)] at hst
            rw [hkp] at C4
            have HST := Lib.hid hst
            clear hst hkp
            go_wp2_with fail
            refine wp_region_below (by kernel_rfl) (by kernel_rfl) ?_
            iterate 20 (first | (refine lex_skip (by rfl) (fun _ _ _ _ h => h) ?_; simp only [Act.put, List.setIfInBounds_toArray, List.set_cons_zero, List.set_cons_succ]) | (refine lex_op (by rfl) ?_; apply Exists.intro; refine ⟨?_, ?_⟩; ((intro _ _ _ _ hT; obtain ⟨hc, hf⟩ := bcell hT; go_simp; first | exact rfl | exact call_below hT (C4.out _ (q.trans (hT.mono q.size))))); simp only [Act.put, List.setIfInBounds_toArray, List.set_cons_zero, List.set_cons_succ]))
            refine lex_nil ?_
            intro w5 bel5
            have p5 : Below w.heap.size w w5 := q.trans (bel5.mono q.size)
            have HO5 := Lib.hid (HO.out.keep bel5)
            clear bel5 x1 x2 x0 z0 z2 n0 n1 n2 q HO C4
            go_wp2_with fail
            go_roundg (n - (i + 1))
            case measure => omega
            case rel => exact ⟨i + 1, hil, rfl, (by first | rfl | simp), by rw [HST.out]; exact HO5.out, p5⟩
        · obtain rfl : i = n := by omega
          have hz3 : ¬ ((i : Int) < (i : Int)) := by omega
          have HOF : Hid (OwnU wr w.heap.size u3 (kpre s (p + 1))) := Lib.hid (by rw [← HE.out]; have := HO.out; rwa [List.take_of_length_le (by rw [toL_len]; exact Nat.le_refl _)] at this)
          have HQ2 := Lib.hid q
          clear HO q
          go_wp2_with fail
          go_roundg (N - (p + 1))
          case measure => omega
          case rel => exact ⟨p + 1, hlt, rfl, (by first | rfl | simp), HOF.out, HQ2.out⟩
    · obtain rfl : p = N := by omega
      have hz2 : ¬ ((p : Int) < (p : Int)) := by omega
      go_wp2_with fail
      refine C1.out.mono ?_
      rintro e w' ⟨rfl, rfl⟩
      go_wp2_with fail
      go_ret
      exact ⟨_, rfl, HO.out, HQ.out⟩
end
end Go.Proofs.Ytbckfoldjlgabaa
