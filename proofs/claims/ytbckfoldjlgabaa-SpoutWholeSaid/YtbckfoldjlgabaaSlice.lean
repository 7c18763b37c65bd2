/- HELPERS: slices whose elements have m cells each; make and append of the call's own. -/
import Derived.Test.YtbckfoldjlgabaaRegionG
import Derived.Deep.DeepAppendRoom
import Derived.Deep.DeepAppendWide
import Derived.Maps.AppendAt
import Derived.OwnWalk
namespace Go.Proofs.Ytbckfoldjlgabaa
open Go.RowKit
/-- the cells of n elements, one behind the other -/
def flat (el : Nat → List Value) : Nat → List Value
  | 0 => []
  | n + 1 => flat el n ++ el n
theorem flat_len {el : Nat → List Value} {m : Nat} (h : ∀ i, (el i).length = m) : ∀ n, (flat el n).length = n * m
  | 0 => by simp [flat]
  | n + 1 => by rw [flat, List.length_append, flat_len h n, h, Nat.add_mul, Nat.one_mul]
theorem flat_get {el : Nat → List Value} {m : Nat} (h : ∀ i, (el i).length = m) {i k : Nat} (hk : k < m) : ∀ {n : Nat}, i < n → (flat el n)[i * m + k]? = (el i)[k]?
  | n + 1, hi => by
    rw [flat]
    by_cases hin : i = n
    · subst hin
      rw [List.getElem?_append_right (by rw [flat_len h]; omega), flat_len h, show i * m + k - i * m = k by omega]
    · rw [List.getElem?_append_left (by
        rw [flat_len h]
        have := Nat.mul_le_mul_right m (show i + 1 ≤ n by omega)
        rw [Nat.add_mul, Nat.one_mul] at this
        omega)]
      exact flat_get h hk (by omega)
theorem flat_congr {el el' : Nat → List Value} : ∀ {n : Nat}, (∀ i, i < n → el i = el' i) → flat el n = flat el' n
  | 0, _ => rfl
  | n + 1, h => by rw [flat, flat, flat_congr (n := n) (fun i hi => h i (by omega)), h n (by omega)]
theorem flat_mem {el : Nat → List Value} {u : Value} : ∀ {n : Nat}, u ∈ flat el n → ∃ i, i < n ∧ u ∈ el i
  | n + 1, h => by
    rw [flat, List.mem_append] at h
    rcases h with h | h
    · obtain ⟨i, hi, hu⟩ := flat_mem h; exact ⟨i, by omega, hu⟩
    · exact ⟨n, by omega, h⟩
/-- one behind the other -/
def both (el : Nat → List Value) (n : Nat) (el' : Nat → List Value) : Nat → List Value := fun i => if i < n then el i else el' (i - n)
theorem flat_add (el el' : Nat → List Value) (n : Nat) : ∀ k, flat el n ++ flat el' k = flat (both el n el') (n + k)
  | 0 => by
    rw [flat, List.append_nil, Nat.add_zero]
    exact flat_congr fun i hi => by unfold both; rw [if_pos hi]
  | k + 1 => by
    rw [flat, ← List.append_assoc, flat_add el el' n k, show n + (k + 1) = (n + k) + 1 from rfl, flat]
    congr 1
    unfold both
    rw [if_neg (by omega), Nat.add_sub_cancel_left]
theorem flat_tail (el : Nat → List Value) (i : Nat) (n : Nat) : flat el (i + n) = flat el i ++ flat (fun j => el (i + j)) n := by
  rw [flat_add]
  refine flat_congr fun j hj => ?_
  unfold both
  split
  · rfl
  · show el j = el (i + (j - i))
    rw [show i + (j - i) = j by omega]
theorem both_len {el el' : Nat → List Value} {m n : Nat} (h : ∀ i, (el i).length = m) (h' : ∀ i, (el' i).length = m) (i : Nat) : (both el n el' i).length = m := by
  unfold both
  split
  · exact h i
  · exact h' _
/-- n elements of m cells lie in block b from o on -/
structure Lies (w : World) (b o m : Nat) (el : Nat → List Value) (n : Nat) : Prop where
  lt : b < w.heap.size
  at_ : ∀ i k, i < n → k < m → w.cell? ⟨b, o + (i * m + k), none⟩ = (el i)[k]?
section
variable {w w' : World} {b o m n : Nat} {el : Nat → List Value} {t : TypeId}
theorem Lies.keep (h : Lies w b o m el n) {N : Nat} (hb : Below N w w') (hn : b < N) : Lies w' b o m el n :=
  ⟨Nat.lt_of_lt_of_le h.lt hb.size, fun i k hi hk => (hb.cell (p := ⟨b, o + (i * m + k), none⟩) hn).trans (h.at_ i k hi hk)⟩
theorem Lies.below (h : Lies w b o m el n) (hb : Below w.heap.size w w') : Lies w' b o m el n := h.keep hb h.lt
theorem Lies.take (h : Lies w b o m el n) {k : Nat} (hk : k ≤ n) : Lies w b o m el k := ⟨h.lt, fun i j hi hj => h.at_ i j (by omega) hj⟩
theorem Lies.drop (h : Lies w b o m el n) {k : Nat} (hk : k ≤ n) : Lies w b (o + k * m) m (fun i => el (k + i)) (n - k) :=
  ⟨h.lt, fun i j hi hj => by
    rw [← h.at_ (k + i) j (by omega) hj, Nat.add_mul]
    congr 2
    omega⟩
theorem Lies.congr (h : Lies w b o m el n) {el' : Nat → List Value} (he : ∀ i, i < n → el i = el' i) : Lies w b o m el' n :=
  ⟨h.lt, fun i j hi hj => by rw [h.at_ i j hi hj, he i hi]⟩
theorem Lies.grown (h : Lies w b o m el n) {row : Option Nat} (hg : w.grownBy w' row) (hr : row ≠ some b) : Lies w' b o m el n :=
  ⟨Nat.lt_of_lt_of_le h.lt hg.size, fun i k hi hk => (World.cell?_of_block (hg.block b h.lt (Ne.symm hr))).trans (h.at_ i k hi hk)⟩
theorem Lies.drew (h : Lies w b o m el n) : Lies w.drew b o m el n := ⟨h.lt, h.at_⟩
theorem Lies.alloc (h : Lies w b o m el n) (ob : Obj) : Lies (w.alloc ob) b o m el n := h.keep ((Below.refl _ _).alloc (Nat.le_refl _) ob) h.lt
theorem Lies.other (h : Lies w b o m el n) {a : Addr} (ha : b ≠ a.block) (v : Value) : Lies (w.setCell a v) b o m el n :=
  ⟨by simpa [World.setCell] using h.lt, fun i k hi hk => (World.cell?_of_block (w := w) (a := ⟨b, o + (i * m + k), none⟩) (Below.heap_setCell _ _ _ _ ha)).trans (h.at_ i k hi hk)⟩
theorem Blk.grown {cs : List Value} (h : Blk w b cs t) {row : Option Nat} (hg : w.grownBy w' row) (hr : row ≠ some b) : Blk w' b cs t := ⟨(hg.block b h.lt (Ne.symm hr)).trans h.lies⟩
theorem Blk.flat {N : Nat} (h : Blk w b (Go.Proofs.Ytbckfoldjlgabaa.flat el N) t) (hl : ∀ i, (el i).length = m) (hn : n ≤ N) : Lies w b 0 m el n :=
  ⟨h.lt, fun i k hi hk => by rw [Nat.zero_add, h.cell, flat_get hl hk (by omega)]⟩
theorem ownsRow_lies {base : Nat} {e : TypeId} {g cap : Nat} (h : w.ownsRow base e m (.slice (some ⟨g, 0, none⟩) n cap) n (flat el n)) (hl : ∀ i, (el i).length = m) : Lies w g 0 m el n :=
  ⟨(h.lt g rfl).2, fun i k hi hk => by
    have : i * m + k < n * m := by
      have := Nat.mul_le_mul_right m (show i + 1 ≤ n by omega)
      rw [Nat.add_mul, Nat.one_mul] at this
      omega
    rw [Nat.zero_add, h.cellAt _ this, flat_get hl hk hi]⟩
/-- a row that is full is known whole -/
theorem ownsRow_full {base : Nat} {e : TypeId} {g : Nat} {xs : List Value} (h : w.ownsRow base e m (.slice (some ⟨g, 0, none⟩) n n) n xs) : Blk w g xs e := by
  rcases h.2 with ⟨h', _⟩ | ⟨g', cap', cur, h', _, hg, _, _, hcs, htake⟩
  · simp at h'
  · simp only [Value.slice.injEq, Option.some.injEq, Addr.mk.injEq, and_true, true_and] at h'
    obtain ⟨rfl, rfl⟩ := h'
    rw [List.take_of_length_le (by rw [Array.length_toList, hcs]; exact Nat.le_refl _)] at htake
    subst htake
    exact ⟨hg⟩
theorem Lies.news {ro k : Nat} {el' : Nat → List Value} (h : Lies w b ro m el' k) (hl : ∀ i, (el' i).length = m) : ∀ j u, (flat el' k)[j]? = some u → w.cell? ((⟨b, ro, none⟩ : Addr).add j) = some u := by
  intro j u hu
  have hj : j < k * m := by
    rcases Nat.lt_or_ge j (k * m) with h' | h'
    · exact h'
    · rw [List.getElem?_eq_none (by rw [flat_len hl]; exact h')] at hu; cases hu
  have hm : 0 < m := by
    rcases Nat.eq_zero_or_pos m with h0 | h0
    · subst h0; simp at hj
    · exact h0
  have e := Nat.div_add_mod j m
  rw [Nat.mul_comm] at e
  have hk := Nat.mod_lt j hm
  have hi : j / m < k := by rw [Nat.div_lt_iff_lt_mul hm]; exact hj
  rw [← e, flat_get hl hk hi] at hu
  have hA : (⟨b, ro, none⟩ : Addr).add j = ⟨b, ro + j, none⟩ := by
    unfold Addr.add
    split
    · rename_i h0; rw [h0]; rfl
    · rfl
  rw [hA, ← e, h.at_ _ _ hi hk, hu]
/-- cells written over in the middle of a block -/
theorem Blk.mid {b : Nat} {t : TypeId} : ∀ (cs zs pre suf : List Value) {w : World}, Blk w b (pre ++ zs ++ suf) t → cs.length = zs.length → Blk (Go.Proofs.Ytbckfoldjlgabaa.setAll w b pre.length cs) b (pre ++ cs ++ suf) t
  | [], [], pre, suf, w, h, _ => h
  | c :: cs, z :: zs, pre, suf, w, h, hl => by
    have h1 := h.set pre.length c
    have e : (pre ++ z :: zs ++ suf).set pre.length c = (pre ++ [c]) ++ zs ++ suf := by simp
    rw [e] at h1
    have h2 := Blk.mid cs zs (pre ++ [c]) suf h1 (by simpa using hl)
    rw [List.length_append, List.length_singleton] at h2
    simpa [Go.Proofs.Ytbckfoldjlgabaa.setAll] using h2
/-- element i written over -/
def putAt (el : Nat → List Value) (i : Nat) (cs : List Value) : Nat → List Value := fun j => if j = i then cs else el j
theorem putAt_len {cs : List Value} {i : Nat} (h : ∀ i, (el i).length = m) (hc : cs.length = m) (j : Nat) : (putAt el i cs j).length = m := by
  unfold putAt
  split
  · exact hc
  · exact h j
theorem Blk.put {N i : Nat} {cs : List Value} (h : Blk w b (Go.Proofs.Ytbckfoldjlgabaa.flat el N) t) (hl : ∀ i, (el i).length = m) (hi : i < N) (hc : cs.length = m) : Blk (Go.Proofs.Ytbckfoldjlgabaa.setAll w b (i * m) cs) b (Go.Proofs.Ytbckfoldjlgabaa.flat (putAt el i cs) N) t := by
  have e1 : Go.Proofs.Ytbckfoldjlgabaa.flat el N = Go.Proofs.Ytbckfoldjlgabaa.flat el i ++ el i ++ Go.Proofs.Ytbckfoldjlgabaa.flat (fun j => el (i + 1 + j)) (N - (i + 1)) := by
    have := flat_tail el (i + 1) (N - (i + 1))
    rw [show i + 1 + (N - (i + 1)) = N by omega] at this
    rw [this, Go.Proofs.Ytbckfoldjlgabaa.flat]
  have e2 : Go.Proofs.Ytbckfoldjlgabaa.flat (putAt el i cs) N = Go.Proofs.Ytbckfoldjlgabaa.flat el i ++ cs ++ Go.Proofs.Ytbckfoldjlgabaa.flat (fun j => el (i + 1 + j)) (N - (i + 1)) := by
    have := flat_tail (putAt el i cs) (i + 1) (N - (i + 1))
    rw [show i + 1 + (N - (i + 1)) = N by omega] at this
    rw [this, Go.Proofs.Ytbckfoldjlgabaa.flat]
    congr 1
    · congr 1
      · exact flat_congr fun j hj => by unfold putAt; rw [if_neg (by omega)]
      · unfold putAt; rw [if_pos rfl]
    · exact flat_congr fun j hj => by unfold putAt; rw [if_neg (by omega)]
  rw [e1] at h
  have h2 := Blk.mid cs (el i) (Go.Proofs.Ytbckfoldjlgabaa.flat el i) _ h (by rw [hc, hl])
  rw [flat_len hl] at h2
  rw [e2]
  exact h2
end
section
variable {P : Program} (w : World)
theorem run_append_none (base : Nat) (t ty e : TypeId) (i : TypeInfo) (size : Nat) (ht : P.underlying t = some (.slice e)) (hi : P.info? e = some i)
    (v : Value) (n : Nat) (xs : List Value) (hown : w.ownsRow base e size v n xs) (c : Nat) : (Builtin.append_ #[t, t] ty #[v, .slice none 0 c]).run P w = .ok v w := by
  rcases hown.2 with ⟨rfl, rfl⟩ | ⟨g, cap, cur, rfl, _, _, hnc, _⟩
  · simp [Builtin.append_, run_underlying ht, sizeOf, typeInfo, hi, Builtin.lenOf, Builtin.firstCells]
  · simp [Builtin.append_, run_underlying ht, sizeOf, typeInfo, hi, Builtin.lenOf, Builtin.firstCells, hnc, storeCells]
/-- append where there is room -/
theorem run_append_in (base : Nat) (t ty e : TypeId) (i : TypeInfo) (m : Nat) (ht : P.underlying t = some (.slice e)) (hi : P.info? e = some i) (hsize : i.size = m)
    (g n cap : Nat) (el : Nat → List Value) (hown : w.ownsRow base e m (.slice (some ⟨g, 0, none⟩) n cap) n (flat el n))
    (src : Option Addr) (k c rb ro : Nat) (el' : Nat → List Value) (hl : ∀ i, (el' i).length = m) (h1 : ∀ i u, u ∈ el' i → u.oneCell' = true) (hs : 0 < k → src = some ⟨rb, ro, none⟩) (hr : 0 < k → Lies w rb ro m el' k) (hroom : n + k ≤ cap) :
    ∃ w', (Builtin.append_ #[t, t] ty #[.slice (some ⟨g, 0, none⟩) n cap, .slice src k c]).run P w = .ok (.slice (some ⟨g, 0, none⟩) (n + k) cap) w' ∧
      w'.ownsRow base e m (.slice (some ⟨g, 0, none⟩) (n + k) cap) (n + k) (flat (both el n el') (n + k)) ∧ w.grownBy w' (some g) := by
  rw [← flat_add]
  rcases Nat.eq_zero_or_pos k with rfl | hk
  · cases src with
    | none => exact ⟨w, run_append_none w base t ty e i m ht hi _ n _ hown c, by simpa [flat] using hown, World.grownBy.refl w _⟩
    | some a => exact run_append_own_spare (P := P) w base t ty e i m ht hi hsize g n cap _ hown a 0 c (flat el' 0) (by simp [flat]) (by simp [flat]) (by simp [flat]) hroom
  · rw [hs hk]
    exact run_append_own_spare (P := P) w base t ty e i m ht hi hsize g n cap _ hown ⟨rb, ro, none⟩ k c (flat el' k) (flat_len hl k) ((hr hk).news hl) (fun u hu => by obtain ⟨i, _, h⟩ := flat_mem hu; exact h1 i u h) hroom
theorem wpList_append_in {ops : Array Oper} {rest : List Oper} {o : Oper} {a : Act} {Q : Exit → Act → World → Prop} (hgd : o.guard = none) (s x : Operand) (t : TypeId)
    (ho : o.op = .call { callee := .builtin .append, args := #[s, x], argTypes := #[t, t] })
    (base : Nat) (e : TypeId) (i : TypeInfo) (m : Nat) (ht : P.underlying t = some (.slice e)) (hi : P.info? e = some i) (hsize : i.size = m)
    (g n cap : Nat) (el : Nat → List Value) (hse : a.eval s = .slice (some ⟨g, 0, none⟩) n cap) (hown : w.ownsRow base e m (.slice (some ⟨g, 0, none⟩) n cap) n (flat el n))
    (src : Option Addr) (k c rb ro : Nat) (hx : a.eval x = .slice src k c) (el' : Nat → List Value) (hl : ∀ i, (el' i).length = m) (h1 : ∀ i u, u ∈ el' i → u.oneCell' = true) (hs : 0 < k → src = some ⟨rb, ro, none⟩) (hr : 0 < k → Lies w rb ro m el' k) (hroom : n + k ≤ cap)
    (h : ∀ w', w'.ownsRow base e m (.slice (some ⟨g, 0, none⟩) (n + k) cap) (n + k) (flat (both el n el') (n + k)) → w.grownBy w' (some g) → wpList P ops Q rest (a.put o.dst (.slice (some ⟨g, 0, none⟩) (n + k) cap)) w') : wpList P ops Q (o :: rest) a w := by
  refine wpList_plain hgd fun K hK => ?_
  obtain ⟨w', hrun, h2, h3⟩ := run_append_in (P := P) w base t o.type e i m ht hi hsize g n cap el hown src k c rb ro el' hl h1 hs hr hroom
  unfold Oper.wp execOp
  simp only [ho, resolve, invoke, builtin, Sem.run_bind, Sem.run_pure, Result.andThen_ok, List.map_toArray, List.map_cons, List.map_nil, hse, hx, hrun]
  exact hK _ _ (h w' h2 h3)
end
end Go.Proofs.Ytbckfoldjlgabaa
