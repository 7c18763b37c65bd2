/- A law of this claim's own: a region that draws its order, walked once in the order of the text, for a class of worlds that may turn with what is done. -/
import Derived.Still
import Derived.Laws.World
import Derived.Laws.Cells
import Derived.Laws.ResultCell
import Derived.Below
import Derived.Lib.Hide
namespace Go.Proofs.Ytbckfoldjlgabaa
open Go.RowKit
section
variable {P : Program} {ops : Array Oper} {C : (Nat → Bool) → World → Prop}

/-- what is done: k as well -/
def upd (L : Nat → Bool) (k : Nat) : Nat → Bool := fun j => if j = k then true else L j
theorem upd_same (L : Nat → Bool) (k : Nat) : upd L k k = true := by simp [upd]
theorem upd_other (L : Nat → Bool) {k j : Nat} (h : j ≠ k) : upd L k j = L j := by simp [upd, h]
def lk (listed : Array Bool) : Nat → Bool := fun j => listed.getD j true
/-- what is done has all done that it waits for -/
def Closed (ops : Array Oper) (L : Nat → Bool) : Prop := ∀ (j : Nat) (o : Oper), ops[j]? = some o → L j = true → ∀ e ∈ o.after, Region.binds .any e = true → L e.on = true

/-- an operation that has yielded this has left v, in a world of the class T -/
def Leaves (P : Program) (T : World → Prop) (v : Value) : Result Next → Prop
  | .ok (.value u) w' => T w' ∧ u = v
  | .ok .skip w' => T w' ∧ undef = v
  | .ok (.enter f args) w' => Calls P f args w' fun e w'' => e = .returned v ∧ T w''
  | _ => False

/-- wherever operation i may come up it leaves v -/
def Gives (P : Program) (ops : Array Oper) (C : (Nat → Bool) → World → Prop) (i : Nat) (o : Oper) (v : Value) (a : Act) : Prop :=
  ∀ L w, L i = false → Closed ops L → C L w → Leaves P (C (upd L i)) v ((execOp a.eval o).run P w)

/-- operation i comes up in state a -/
def cOp (P : Program) (ops : Array Oper) (C : (Nat → Bool) → World → Prop) (i : Nat) (K : Act → Prop) (a : Act) : Prop :=
  match ops[i]? with
  | none => K a
  | some o =>
    if Region.wanted o (yielded ops a.tmps) then ∃ v, Gives P ops C i o v a ∧ K (a.put o.dst v)
    else (∀ L w, L i = false → Closed ops L → C L w → C (upd L i) w) ∧ K (a.put o.dst undef)

theorem cOp_mono {i : Nat} {a : Act} {K K' : Act → Prop} (h : ∀ a, K a → K' a) (hh : cOp P ops C i K a) : cOp P ops C i K' a := by
  unfold cOp at *
  split
  · exact h _ (by simpa [*] using hh)
  · rename_i o ho
    simp only [ho] at hh
    split
    · rename_i hw
      simp only [hw, if_true] at hh
      obtain ⟨v, h1, h2⟩ := hh
      exact ⟨v, h1, h _ h2⟩
    · rename_i hw
      simp only [hw] at hh
      exact ⟨hh.1, h _ hh.2⟩

/-- whatever order is picked from here on -/
def wpAnyC (P : Program) (ops : Array Oper) (C : (Nat → Bool) → World → Prop) (Q : Array Bool → Act → Prop) : Nat → Array Bool → Act → Prop
  | 0, listed, a => Region.ready .any ops listed = [] ∧ Q listed a
  | fuel + 1, listed, a =>
    (Region.ready .any ops listed = [] → Q listed a) ∧
    ∀ i ∈ Region.ready .any ops listed, cOp P ops C i (wpAnyC P ops C Q fuel (listed.setIfInBounds i true)) a

theorem lk_set {listed : Array Bool} {i : Nat} (h : i < listed.size) : lk (listed.setIfInBounds i true) = upd (lk listed) i := by
  funext j
  unfold lk upd
  by_cases hj : j = i
  · subst hj; simp [h]
  · rw [if_neg hj, getD_set_ne true (Ne.symm hj)]

theorem wpAny_of_cls {Q : Array Bool → Act → Prop} {Q' : Exit → Act → World → Prop} (hQ : ∀ l a w, C (lk l) w → Q l a → Q' .normal a w) :
    ∀ (fuel : Nat) (listed : Array Bool) (a : Act) (w : World), Closed ops (lk listed) → C (lk listed) w → wpAnyC P ops C Q fuel listed a → wpAny P .any ops Q' fuel listed a w
  | 0, _, _, _, _, hw, h => ⟨h.1, hQ _ _ _ hw h.2⟩
  | fuel + 1, listed, a, w, hcl, hw, h => ⟨fun h0 => hQ _ _ _ hw (h.1 h0), fun i hi => by
      have hop := h.2 i hi
      obtain ⟨hun, o, ho, hall⟩ := mem_ready.1 hi
      have hlt : i < listed.size := by
        rcases Nat.lt_or_ge i listed.size with h' | h'
        · exact h'
        · simp [Array.getElem?_eq_none h'] at hun
      have hcl' : Closed ops (lk (listed.setIfInBounds i true)) := by
        rw [lk_set hlt]
        intro j oj hj hjL e he hb
        by_cases hji : j = i
        · subst hji
          rw [ho] at hj
          cases hj
          have := hall e he hb
          by_cases hee : e.on = j
          · rw [hee]; exact upd_same _ _
          · rw [upd_other _ hee]
            show listed.getD e.on true = true
            rcases Nat.lt_or_ge e.on listed.size with h' | h'
            · simpa [h'] using this
            · simp [Array.getElem?_eq_none h']
        · rw [upd_other _ hji] at hjL
          have := hcl j oj hj hjL e he hb
          by_cases hee : e.on = i
          · rw [hee]; exact upd_same _ _
          · rw [upd_other _ hee]; exact this
      have go : ∀ a' w', C (upd (lk listed) i) w' → wpAnyC P ops C Q fuel (listed.setIfInBounds i true) a' → wpAny P .any ops Q' fuel (listed.setIfInBounds i true) a' w' :=
        fun a' w' hC hk => wpAny_of_cls hQ fuel _ a' w' hcl' (by rw [lk_set hlt]; exact hC) hk
      unfold cOp at hop
      unfold wpOp
      simp only [ho] at hop ⊢
      split
      · rename_i hwn
        simp only [hwn, if_true] at hop
        obtain ⟨v, h1, h2⟩ := hop
        have h3 := h1 (lk listed) w hun hcl hw
        refine .inl ?_
        unfold Oper.wp
        generalize (execOp a.eval o).run P w = r at h3
        cases r with
        | ok n w' =>
          cases n <;> simp only [Leaves] at h3 <;> simp only [Oper.upon]
          case value u =>
            obtain ⟨e1, e2⟩ := h3
            rw [e2]
            exact go _ _ e1 h2
          case skip =>
            obtain ⟨e1, e2⟩ := h3
            rw [e2]
            exact go _ _ e1 h2
          case enter f args => exact h3.mono fun e w'' ⟨he, hw''⟩ => by subst he; exact go _ _ hw'' h2
        | halt x w' => simp only [Leaves] at h3
      · rename_i hwn
        simp only [hwn] at hop
        exact go _ _ (hop.1 _ _ hun hcl hw) hop.2⟩

/-- in state a operation i gives v, or is passed over -/
def Does (P : Program) (ops : Array Oper) (C : (Nat → Bool) → World → Prop) (i : Nat) (o : Oper) (v : Value) (a : Act) : Prop :=
  (Region.wanted o (yielded ops a.tmps) = true ∧ Gives P ops C i o v a) ∨
  (Region.wanted o (yielded ops a.tmps) = false ∧ (∀ L w, L i = false → Closed ops L → C L w → C (upd L i) w) ∧ v = undef)

theorem Does.cOp {i : Nat} {o : Oper} {v : Value} {a : Act} (hi : ops[i]? = some o) (hy : Does P ops C i o v a) {K : Act → Prop} (h : K (a.put o.dst v)) : cOp P ops C i K a := by
  unfold Go.Proofs.Ytbckfoldjlgabaa.cOp
  simp only [hi]
  rcases hy with ⟨hw, hv⟩ | ⟨hw, hv, rfl⟩
  · simp only [hw, if_true]; exact ⟨v, hv, h⟩
  · simp only [hw, Bool.false_eq_true, if_false]; exact ⟨hv, h⟩

theorem Does.of_same {i : Nat} {o : Oper} {v : Value} {a a' : Act} (hy : Does P ops C i o v a) (he : execOp a'.eval o = execOp a.eval o)
    (hw : Region.wanted o (yielded ops a'.tmps) = Region.wanted o (yielded ops a.tmps)) : Does P ops C i o v a' := by
  unfold Does Gives at *
  rw [he, hw]
  exact hy

theorem does_of_cOp {i : Nat} {o : Oper} {a : Act} {K : Act → Prop} (hi : ops[i]? = some o) (h : cOp P ops C i K a) : ∃ v, Does P ops C i o v a ∧ K (a.put o.dst v) := by
  unfold cOp at h
  simp only [hi] at h
  by_cases hw : Region.wanted o (yielded ops a.tmps) = true
  · simp only [hw, if_true] at h
    obtain ⟨v, h1, h2⟩ := h
    exact ⟨v, .inl ⟨hw, h1⟩, h2⟩
  · simp only [hw] at h
    exact ⟨undef, .inr ⟨by simpa using hw, h.1, rfl⟩, h.2⟩

theorem cOp_put {i j : Nat} {oi oj : Oper} {v : Value} (hj : ops[j]? = some oj) (hap : oi.apart ops oj = true)
    (hsi : ∀ cs b, oi.op ≠ .select cs b) (hsj : ∀ cs b, oj.op ≠ .select cs b) {K : Act → Prop} {a : Act}
    (hy : Does P ops C i oi v a) (h : cOp P ops C j K (a.put oi.dst v)) :
    cOp P ops C j (fun a' => Does P ops C i oi v a' ∧ K (a'.put oi.dst v)) a := by
  obtain ⟨h1, h2, h3⟩ := Oper.apart_spec hap
  obtain ⟨u, hu, hn⟩ := does_of_cOp hj h
  have hu' : Does P ops C j oj u a := hu.of_same (execOp_put oj hsj a oi.dst v h1).symm (wanted_put oj a oi.dst v h1).symm
  refine hu'.cOp hj ⟨hy.of_same (execOp_put oi hsi a oj.dst u h3) (wanted_put oi a oj.dst u h3), ?_⟩
  rw [← Act.put_comm a v u h2]
  exact hn

theorem wpAnyC_first {Q : Array Bool → Act → Prop} {i : Nat} {oi : Oper} {v : Value} (hi : ops[i]? = some oi) (hsel : ∀ (j : Nat) (o : Oper) cs b, ops[j]? = some o → o.op ≠ .select cs b) :
    ∀ (fuel : Nat) (listed : Array Bool) (a : Act),
      (∀ j oj, ops[j]? = some oj → j ≠ i → listed.getD j true = false → (∀ e ∈ oj.after, Region.binds .any e = true → e.on ≠ i) → oi.apart ops oj = true) →
      i ∈ Region.ready .any ops listed → Does P ops C i oi v a →
      wpAnyC P ops C Q fuel (listed.setIfInBounds i true) (a.put oi.dst v) → wpAnyC P ops C Q (fuel + 1) listed a := by
  intro fuel
  induction fuel with
  | zero =>
    intro listed a _ hr hy H
    refine ⟨fun h => (by rw [h] at hr; cases hr), fun j hj => ?_⟩
    by_cases hji : j = i
    · subst hji; exact hy.cOp hi H
    · have := ready_mono hj hji
      rw [H.1] at this
      cases this
  | succ fuel ih =>
    intro listed a hfree hr hy H
    refine ⟨fun h => (by rw [h] at hr; cases hr), fun j hj => ?_⟩
    by_cases hji : j = i
    · subst hji; exact hy.cOp hi H
    · have h1 := H.2 j (ready_mono hj hji)
      obtain ⟨hjun, oj, hoj, hall⟩ := mem_ready.1 hj
      have hnot : ∀ e ∈ oj.after, Region.binds .any e = true → e.on ≠ i := fun e he hb heq => by
        have h1 := hall e he hb
        have h0 := (mem_ready.1 hr).1
        rw [heq] at h1
        rcases Nat.lt_or_ge i listed.size with h' | h'
        · simp [h'] at h0 h1; rw [h0] at h1; cases h1
        · simp [Array.getElem?_eq_none h'] at h1
      have h2 := cOp_put hoj (hfree j oj hoj hji hjun hnot) (fun cs b => hsel i oi cs b hi) (fun cs b => hsel j oj cs b hoj) hy h1
      have hfree' : ∀ k ok, ops[k]? = some ok → k ≠ i → (listed.setIfInBounds j true).getD k true = false →
          (∀ e ∈ ok.after, Region.binds .any e = true → e.on ≠ i) → oi.apart ops ok = true := fun k ok hk hki hun hno => by
        refine hfree k ok hk hki ?_ hno
        by_cases hjk : j = k
        · subst hjk; exact hjun
        · rw [getD_set_ne true hjk] at hun; exact hun
      refine cOp_mono (fun a' h3 => ih (listed.setIfInBounds j true) a' hfree' (ready_mono hr (Ne.symm hji)) h3.1 ?_) h2
      rw [Array.setIfInBounds_comm _ _ hji]
      exact h3.2

/-- the walk in the order of the text -/
def wpLex (P : Program) (ops : Array Oper) (C : (Nat → Bool) → World → Prop) (Q : Act → Prop) : Nat → List Oper → Act → Prop
  | _, [], a => Q a
  | k, o :: rest, a =>
    if Region.wanted o (yielded ops a.tmps) then ∃ v, Gives P ops C k o v a ∧ wpLex P ops C Q (k + 1) rest (a.put o.dst v)
    else (∀ L w, L k = false → Closed ops L → C L w → C (upd L k) w) ∧ wpLex P ops C Q (k + 1) rest (a.put o.dst undef)

theorem wpAnyC_lex {Q : Act → Prop} (hs : Region.noSelect ops = true) : ∀ (l : List Oper) (k : Nat) (listed : Array Bool) (a : Act), (∀ j, l[j]? = ops[k + j]?) → listed.size = k + l.length →
    (∀ j, j < k → listed.getD j true = true) →
    Region.lexFrom .any ops l.length k listed = true → wpLex P ops C Q k l a → wpAnyC P ops C (fun l a => (∀ j, l.getD j true = true) ∧ Q a) l.length listed a
  | [], k, listed, _, _, hz, hd, hB, h => ⟨by simpa [Region.lexFrom] using hB, fun j => by
      rcases Nat.lt_or_ge j k with h' | h'
      · exact hd j h'
      · have hz' : listed.size = k := by simpa using hz
        simp [Array.getElem?_eq_none (show listed.size ≤ j by omega)], h⟩
  | o :: l, k, listed, a, hl, hz, hd, hB, h => by
    have h0 : ops[k]? = some o := by simpa using (hl 0).symm
    simp only [List.length_cons, Region.lexFrom, Bool.and_eq_true] at hB
    obtain ⟨⟨hr, hf⟩, hB'⟩ := hB
    have hst : cOp P ops C k (wpLex P ops C Q (k + 1) l) a := by unfold cOp; simp only [h0]; exact h
    obtain ⟨v, hy, hK⟩ := does_of_cOp h0 hst
    have hlen : listed.size = k + l.length + 1 := by simpa [Nat.add_assoc] using hz
    exact wpAnyC_first h0 (Region.noSelect_spec hs) l.length listed a (Region.free_spec h0 hf) (by simpa using hr) hy
      (wpAnyC_lex hs l (k + 1) _ _ (fun j => by have := hl (j + 1); simpa [Nat.add_assoc, Nat.add_comm 1 j] using this) (by simp; omega)
        (fun j hj => by
          by_cases hjk : j = k
          · subst hjk; simp [show j < listed.size by omega]
          · rw [getD_set_ne true (Ne.symm hjk)]; exact hd j (by omega)) hB' hK)

/-- ONE WALK SERVES EVERY ORDER -/
theorem wp_region_cls {id : Nat} {Q : Exit → Act → World → Prop} {a : Act} {w : World} {l : List Oper} (C : (Nat → Bool) → World → Prop) (hm : P.follows .mixedOrders = true) (hB : Region.lexB .any l.toArray = true)
    (hC : C (fun j => decide (l.length ≤ j)) w.drew)
    (h : wpLex P l.toArray C (fun a' => ∀ w', C (fun _ => true) w' → Q .normal a' w') 0 l a) : (Code.region id l.toArray true).wp P Q a w := by
  simp only [Region.lexB, Bool.and_eq_true] at hB
  have e0 : lk (Array.replicate l.toArray.size false) = fun j => decide (l.length ≤ j) := by
    funext j
    unfold lk
    by_cases hj : l.length ≤ j
    · simp [hj]
    · simp [hj, Nat.lt_of_not_le hj]
  refine wp_region_any hm (wpAny_of_cls (C := C) (Q := fun l a' => (∀ j, l.getD j true = true) ∧ ∀ w', C (fun _ => true) w' → Q .normal a' w') (fun l' a' w' hw' h => h.2 w' ?_) _ _ _ _ ?_ (by rw [e0]; exact hC) ?_)
  · have : lk l' = fun _ => true := funext h.1
    rw [← this]; exact hw'
  · rw [e0]
    intro j o ho hj
    simp only [decide_eq_true_eq] at hj
    have : l.toArray[j]? = none := by simp [hj]
    rw [this] at ho
    cases ho
  · have := wpAnyC_lex (P := P) (C := C) hB.1 l 0 (Array.replicate l.toArray.size false) a (by simp) (by simp) (fun j hj => by omega) (by simpa using hB.2) h
    simpa using this

theorem Closed.no {L : Nat → Bool} (h : Closed ops L) {j i : Nat} {o : Oper} (hj : ops[j]? = some o) (hd : o.after.any (fun e => Region.binds .any e && e.on == i) = true) (hi : L i = false) : L j = false := by
  cases hL : L j
  · rfl
  · obtain ⟨e, he, hb⟩ := Array.any_eq_true'.1 hd
    simp only [Bool.and_eq_true, beq_iff_eq] at hb
    have := h j o hj hL e he hb.1
    rw [hb.2, hi] at this
    cases this

/-! ### The steps of such a walk -/
theorem lex_nil {Q : Act → Prop} {a : Act} {k : Nat} (h : Q a) : wpLex P ops C Q k [] a := h
theorem lex_op {Q : Act → Prop} {a : Act} {k : Nat} {o : Oper} {rest : List Oper} (hw : Region.wanted o (yielded ops a.tmps) = true)
    (h : ∃ v, Gives P ops C k o v a ∧ wpLex P ops C Q (k + 1) rest (a.put o.dst v)) : wpLex P ops C Q k (o :: rest) a := by
  unfold wpLex
  rw [if_pos hw]
  exact h
theorem lex_skip {Q : Act → Prop} {a : Act} {k : Nat} {o : Oper} {rest : List Oper} (hw : Region.wanted o (yielded ops a.tmps) = false)
    (h : ∀ L w, L k = false → Closed ops L → C L w → C (upd L k) w) (hk : wpLex P ops C Q (k + 1) rest (a.put o.dst undef)) : wpLex P ops C Q k (o :: rest) a := by
  unfold wpLex
  rw [if_neg (by rw [hw]; exact Bool.false_ne_true)]
  exact ⟨h, hk⟩
theorem leaves_value (T : World → Prop) (v u : Value) (w : World) : Leaves P T v (.ok (.value u) w) = (T w ∧ u = v) := rfl
theorem leaves_skip (T : World → Prop) (v : Value) (w : World) : Leaves P T v (.ok .skip w) = (T w ∧ undef = v) := rfl
theorem leaves_enter (T : World → Prop) (v : Value) (f : FuncId) (args : Array Value) (w : World) : Leaves P T v (.ok (.enter f args) w) = Calls P f args w fun e w'' => e = .returned v ∧ T w'' := rfl
attribute [go_sem] leaves_value leaves_skip leaves_enter

/-- the class 'what was there is as it was' -/
def Since (W w' : World) : Prop := Below W.heap.size W w'
theorem wp_region_below {id : Nat} {Q : Exit → Act → World → Prop} {a : Act} {w : World} {l : List Oper} (hm : P.follows .mixedOrders = true) (hB : Region.lexB .any l.toArray = true)
    (h : wpLex P l.toArray (fun _ => Since w) (fun a' => ∀ w', Below w.heap.size w w' → Q .normal a' w') 0 l a) : (Code.region id l.toArray true).wp P Q a w :=
  wp_region_cls (fun _ => Since w) hm hB (Below.refl _ _).drew h

theorem call_below {w w' : World} {f : FuncId} {args : Array Value} {v : Value} (hb : Since w w') (h : Calls P f args w' fun e w'' => e = .returned v ∧ Below w'.heap.size w' w'') :
    Calls P f args w' fun e w'' => e = .returned v ∧ Since w w'' :=
  h.mono fun _ _ ⟨he, h2⟩ => ⟨he, Below.trans hb (h2.mono hb.size)⟩
theorem call_same {w w' : World} {f : FuncId} {args : Array Value} {v : Value} (hb : Since w w') (h : Calls P f args w' fun e w'' => e = .returned v ∧ w' = w'') :
    Calls P f args w' fun e w'' => e = .returned v ∧ Since w w'' :=
  h.mono fun _ _ ⟨he, h2⟩ => ⟨he, h2 ▸ hb⟩
@[go_sem] theorem cell_set_same (w : World) (a : Addr) (v : Value) (h : (w.cell? a).isSome = true) : (w.setCell a v).cell? a = some v := by
  unfold World.cell? at *
  unfold World.setCell
  simp only [Array.getElem?_modify, if_true]
  cases hb : w.heap[a.block]? with
  | none => simp [hb] at h
  | some o =>
    cases o <;> simp [hb] at h
    rename_i c e f
    cases hs : a.spot with
    | some s => simp [hs] at h
    | none =>
      simp [hs] at h
      simp [h]
theorem bel_drew {w W : World} (h : Below w.heap.size w W) : Below w.heap.size w W.drew := h.drew
theorem bel_alloc {w W : World} (h : Below w.heap.size w W) (o : Obj) : Below w.heap.size w (W.alloc o) := h.alloc h.size o
theorem bel_set {w W : World} (h : Below w.heap.size w W) {p : Addr} (hp : w.heap.size ≤ p.block) (u : Value) : Below w.heap.size w (W.setCell p u) := h.setCell hp u
theorem bel_call {w W w1 : World} (h : Below w.heap.size w W) (hb : Below W.heap.size W w1) : Below w.heap.size w w1 := h.trans (hb.mono h.size)
theorem bcell {W w1 : World} (hb : Below W.heap.size W w1) : (∀ b o, b < W.heap.size → w1.cell? ⟨b, o, none⟩ = W.cell? ⟨b, o, none⟩) ∧ (∀ b o, b < W.heap.size → w1.frozen? ⟨b, o, none⟩ = W.frozen? ⟨b, o, none⟩) :=
  ⟨fun b o h => hb.cell (p := ⟨b, o, none⟩) h, fun b o h => hb.frozen (p := ⟨b, o, none⟩) h⟩

/-- block b holds these cells, and may be written -/
structure Blk (w : World) (b : Nat) (cs : List Value) (t : TypeId) : Prop where
  lies : w.heap[b]? = some (.cells cs.toArray t (0, 0))
theorem Blk.cell {w : World} {b : Nat} {cs : List Value} {t : TypeId} (h : Blk w b cs t) (i : Nat) : w.cell? ⟨b, i, none⟩ = cs[i]? := by
  have h := h.lies
  simp [World.cell?, h]
theorem Blk.free {w : World} {b : Nat} {cs : List Value} {t : TypeId} (h : Blk w b cs t) (i : Nat) : w.frozen? ⟨b, i, none⟩ = false := by
  have h := h.lies
  simp [World.frozen?, h]
theorem Blk.lt {w : World} {b : Nat} {cs : List Value} {t : TypeId} (h : Blk w b cs t) : b < w.heap.size := by
  have h := h.lies
  rcases Nat.lt_or_ge b w.heap.size with h' | h'
  · exact h'
  · simp [Array.getElem?_eq_none h'] at h
theorem Blk.keep {w w' : World} {b n : Nat} {cs : List Value} {t : TypeId} (h : Blk w b cs t) (hb : Below n w w') (hn : b < n) : Blk w' b cs t :=
  ⟨(hb.block b hn).trans h.lies⟩
theorem Blk.below {w w' : World} {b : Nat} {cs : List Value} {t : TypeId} (h : Blk w b cs t) (hb : Below w.heap.size w w') : Blk w' b cs t := h.keep hb h.lt
theorem Blk.set {w : World} {b : Nat} {cs : List Value} {t : TypeId} (h : Blk w b cs t) (i : Nat) (v : Value) : Blk (w.setCell ⟨b, i, none⟩ v) b (cs.set i v) t :=
  ⟨by have h := h.lies; simp [World.setCell, Array.getElem?_modify, h]⟩
theorem Blk.other {w : World} {b : Nat} {cs : List Value} {t : TypeId} (h : Blk w b cs t) {a : Addr} (ha : b ≠ a.block) (v : Value) : Blk (w.setCell a v) b cs t :=
  ⟨(Below.heap_setCell _ _ _ _ ha).trans h.lies⟩
theorem Blk.drew {w : World} {b : Nat} {cs : List Value} {t : TypeId} (h : Blk w b cs t) : Blk w.drew b cs t := ⟨h.lies⟩
theorem Blk.new {w : World} {b : Nat} (cs : List Value) (t : TypeId) (h : w.heap.size = b) : Blk (w.alloc (.cells cs.toArray t)) b cs t := by
  subst h
  refine ⟨?_⟩
  show (w.heap.push _)[w.heap.size]? = _
  simp
theorem Blk.alloc {w : World} {b : Nat} {cs : List Value} {t : TypeId} (h : Blk w b cs t) (o : Obj) : Blk (w.alloc o) b cs t := h.keep ((Below.refl _ _).alloc (Nat.le_refl _) o) h.lt
theorem Blk.set_eq {w : World} {b : Nat} {cs0 cs : List Value} {t : TypeId} {i : Nat} {v : Value} (h : Blk w b cs0 t) (e : cs0.set i v = cs) : Blk (w.setCell ⟨b, i, none⟩ v) b cs t := e ▸ h.set i v
theorem Blk.load {P : Program} {w : World} {b : Nat} {cs : List Value} {t ty : TypeId} (h : Blk w b cs t) (ha : (isAgg ty).run P w = .ok true w) (hz : (sizeOf ty).run P w = .ok cs.length w) :
    (loadVar ty ⟨b, 0, none⟩).run P w = .ok (.agg cs.toArray) w := by
  unfold loadVar
  simp only [Sem.run_bind, ha, Result.andThen_ok, if_true, hz]
  rw [run_loadCells_list w ⟨b, 0, none⟩ cs (fun j v hj => by
    have := h.cell j
    rw [hj] at this
    unfold Addr.add
    split
    · rename_i h0; subst h0; exact this
    · simpa using this)]
  rfl
/-- a result that is a struct in block b -/
theorem ret_cell {P : Program} {fn : Func} {R : Ending → World → Prop} {a : Act} {w : World} {p : Tmp} {ty t : TypeId} {b : Nat} (cs : List Value) (hr : fn.results = #[.cell p ty])
    (hp : a.tmps.getD p undef = .pointer (some ⟨b, 0, none⟩)) (ha : (isAgg ty).run P w = .ok true w) (hz : (sizeOf ty).run P w = .ok cs.length w) (hb : Blk w b cs t)
    (hd : a.defers = []) (hR : R (.returned (.agg cs.toArray)) w) : bodyPost P fn R .ret a w := by
  refine bodyPost_ret (v := .agg cs.toArray) ?_ hd hR
  have := hb.load ha hz
  simp only [results, hr]
  rw [Array.getD_eq_getD_getElem?] at hp
  simp [hp, Sem.run_bind, Result.andThen]
  show (match (Result.ok ⟨b, 0, none⟩ w : Result Addr) with
    | .ok a w => (loadVar ty a).run P w
    | .halt h w => .halt h w) = _
  exact this
/-- .. and a number or the like beside it -/
theorem ret_cell_tmp {P : Program} {fn : Func} {R : Ending → World → Prop} {a : Act} {w : World} {p u : Tmp} {ty t : TypeId} {b : Nat} (cs : List Value) (hr : fn.results = #[.cell p ty, .tmp u])
    (hp : a.tmps.getD p undef = .pointer (some ⟨b, 0, none⟩)) (ha : (isAgg ty).run P w = .ok true w) (hz : (sizeOf ty).run P w = .ok cs.length w) (hb : Blk w b cs t)
    (hd : a.defers = []) (hR : R (.returned (.tuple #[.agg cs.toArray, a.tmps.getD u undef])) w) : bodyPost P fn R .ret a w := by
  refine bodyPost_ret (v := .tuple #[.agg cs.toArray, a.tmps.getD u undef]) ?_ hd hR
  rw [results_cell_tmp hr, hp]
  show ((loadVar ty ⟨b, 0, none⟩).run P w).andThen _ = _
  rw [hb.load ha hz]
  rfl
end
#print axioms wp_region_cls
end Go.Proofs.Ytbckfoldjlgabaa
