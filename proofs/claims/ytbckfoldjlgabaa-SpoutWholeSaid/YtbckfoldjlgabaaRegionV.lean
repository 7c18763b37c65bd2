/- A law of this claim's own: as RegionG, the ghost of an operation being its VALUE (a new block, an append, a call's answer). Printed by gen_regionv.py. -/
import Derived.Test.YtbckfoldjlgabaaRegionG
namespace Go.Proofs.Ytbckfoldjlgabaa.RV
open Go.RowKit Go.Proofs.Ytbckfoldjlgabaa
/-- operation i leaves some value and some world of T -/
def LeavesX (P : Program) (T : Value → World → Prop) : Result Next → Prop
  | .ok (.value u) w' => T u w'
  | .ok (.enter f args) w' => Calls P f args w' fun e w'' => ∃ u, e = .returned u ∧ T u w''
  | _ => False
section
variable {P : Program} {ops : Array Oper} {C : (Nat → Value) → (Nat → Bool) → World → Prop}

/-- operation i's block is b -/
def gset (g : Nat → Value) (i : Nat) (b : Value) : Nat → Value := fun j => if j = i then b else g j
theorem gset_same (g : Nat → Value) (i : Nat) (b : Value) : gset g i b i = b := by simp [gset]
theorem gset_other (g : Nat → Value) {i j : Nat} (b : Value) (h : j ≠ i) : gset g i b j = g j := by simp [gset, h]

/-- a value that looks at no block but those of what it waits for -/
def Known (ops : Array Oper) (k : Nat) (v : (Nat → Value) → Value) : Prop := ∀ g g', (∀ m, Anc ops m k → g m = g' m) → v g = v g'
theorem known_const (k : Nat) (v : Value) : Known ops k (fun _ => v) := fun _ _ _ => rfl

/-- in state A operation i leaves v -/
def DoesG (P : Program) (ops : Array Oper) (C : (Nat → Value) → (Nat → Bool) → World → Prop) (i : Nat) (o : Oper) (v : (Nat → Value) → Value) (A : (Nat → Value) → Act) : Prop :=
  ((∀ g, Region.wanted o (yielded ops (A g).tmps) = true) ∧ Known ops i v ∧ ∀ g L w, Up ops L i → C g L w → Leaves P (C g (upd L i)) (v g) ((execOp (A g).eval o).run P w)) ∨
  ((∀ g, Region.wanted o (yielded ops (A g).tmps) = false) ∧ (v = fun _ => undef) ∧ ∀ g L w, Up ops L i → C g L w → C g (upd L i) w) ∨
  ((∀ g, Region.wanted o (yielded ops (A g).tmps) = true) ∧ (v = fun g => g i) ∧
    ∀ g L w, Up ops L i → C g L w → LeavesX P (fun u w' => C (gset g i u) (upd L i) w') ((execOp (A g).eval o).run P w))

theorem DoesG.of_same {i : Nat} {o : Oper} {v : (Nat → Value) → Value} {A A' : (Nat → Value) → Act} (hy : DoesG P ops C i o v A) (he : ∀ g, execOp (A' g).eval o = execOp (A g).eval o)
    (hw : ∀ g, Region.wanted o (yielded ops (A' g).tmps) = Region.wanted o (yielded ops (A g).tmps)) : DoesG P ops C i o v A' := by
  rcases hy with ⟨h1, h2, h3⟩ | ⟨h1, h2, h3⟩ | ⟨h1, h2, h3⟩
  · exact .inl ⟨fun g => (hw g).trans (h1 g), h2, fun g L w a b => by rw [he]; exact h3 g L w a b⟩
  · exact .inr (.inl ⟨fun g => (hw g).trans (h1 g), h2, h3⟩)
  · exact .inr (.inr ⟨fun g => (hw g).trans (h1 g), h2, fun g L w a b => by rw [he]; exact h3 g L w a b⟩)

/-- operation i comes up in state A -/
def gOp (P : Program) (ops : Array Oper) (C : (Nat → Value) → (Nat → Bool) → World → Prop) (i : Nat) (K : ((Nat → Value) → Act) → Prop) (A : (Nat → Value) → Act) : Prop :=
  match ops[i]? with
  | none => K A
  | some o => ∃ v, DoesG P ops C i o v A ∧ K (fun g => (A g).put o.dst (v g))
theorem gOp_mono {i : Nat} {A : (Nat → Value) → Act} {K K' : ((Nat → Value) → Act) → Prop} (h : ∀ A, K A → K' A) (hh : gOp P ops C i K A) : gOp P ops C i K' A := by
  unfold gOp at *
  split
  · exact h _ (by simpa [*] using hh)
  · rename_i o ho
    simp only [ho] at hh
    obtain ⟨v, h1, h2⟩ := hh
    exact ⟨v, h1, h _ h2⟩

def wpAnyG (P : Program) (ops : Array Oper) (C : (Nat → Value) → (Nat → Bool) → World → Prop) (Q : Array Bool → ((Nat → Value) → Act) → Prop) : Nat → Array Bool → ((Nat → Value) → Act) → Prop
  | 0, listed, A => Region.ready .any ops listed = [] ∧ Q listed A
  | fuel + 1, listed, A =>
    (Region.ready .any ops listed = [] → Q listed A) ∧
    ∀ i ∈ Region.ready .any ops listed, gOp P ops C i (wpAnyG P ops C Q fuel (listed.setIfInBounds i true)) A

theorem wpAny_of_ghost (hloc : ∀ g g' L w, (∀ j, L j = true → g j = g' j) → C g L w → C g' L w) {Q : Array Bool → ((Nat → Value) → Act) → Prop} {Q' : Exit → Act → World → Prop}
    (hQ : ∀ l A g w, C g (lk l) w → Q l A → Q' .normal (A g) w) :
    ∀ (fuel : Nat) (listed : Array Bool) (A : (Nat → Value) → Act) (g : Nat → Value) (w : World), Closed ops (lk listed) → (∀ g g', (∀ j, lk listed j = true → g j = g' j) → A g = A g') → C g (lk listed) w →
      wpAnyG P ops C Q fuel listed A → wpAny P .any ops Q' fuel listed (A g) w
  | 0, _, _, _, _, _, _, hw, h => ⟨h.1, hQ _ _ _ _ hw h.2⟩
  | fuel + 1, listed, A, g, w, hcl, hA, hw, h => ⟨fun h0 => hQ _ _ _ _ hw (h.1 h0), fun i hi => by
      have hop := h.2 i hi
      obtain ⟨hun, o, ho, hall⟩ := mem_ready.1 hi
      have hlt : i < listed.size := by
        rcases Nat.lt_or_ge i listed.size with h' | h'
        · exact h'
        · simp [Array.getElem?_eq_none h'] at hun
      have hcl' : Closed ops (lk (listed.setIfInBounds i true)) := by
        rw [lk_set hlt]; exact closed_set hcl ho hall
      have hup : Up ops (lk listed) i := ⟨hun, hcl, fun o' ho' e he hb => by
        rw [ho] at ho'
        cases ho'
        have := hall e he hb
        show listed.getD e.on true = true
        rcases Nat.lt_or_ge e.on listed.size with h' | h'
        · simpa [h'] using this
        · simp [Array.getElem?_eq_none h']⟩
      have hsub : ∀ j, lk listed j = true → upd (lk listed) i j = true := fun j hj => by
        by_cases hji : j = i
        · rw [hji]; exact upd_same _ _
        · rw [upd_other _ hji]; exact hj
      unfold gOp at hop
      simp only [ho] at hop
      obtain ⟨v, hd, hk⟩ := hop
      have hA' : ∀ g g', (∀ j, lk (listed.setIfInBounds i true) j = true → g j = g' j) → (A g).put o.dst (v g) = (A g').put o.dst (v g') := fun g1 g2 hj => by
        rw [lk_set hlt] at hj
        have e1 : A g1 = A g2 := hA _ _ fun j h' => hj j (hsub j h')
        have e2 : v g1 = v g2 := by
          rcases hd with ⟨_, hkn, _⟩ | ⟨_, hv, _⟩ | ⟨_, hv, _⟩
          · refine hkn _ _ fun m hm => hj m ?_
            rw [← lk_set hlt]
            exact hm.done hcl' (by rw [lk_set hlt]; exact upd_same _ _)
          · rw [hv]
          · rw [hv]; show g1 i = g2 i; rw [hj i (upd_same _ _)]
        rw [e1, e2]
      have go : ∀ g' w', C g' (upd (lk listed) i) w' → wpAny P .any ops Q' fuel (listed.setIfInBounds i true) ((A g').put o.dst (v g')) w' :=
        fun g' w' hC => wpAny_of_ghost hloc hQ fuel _ (fun g => (A g).put o.dst (v g)) g' w' hcl' hA' (by rw [lk_set hlt]; exact hC) hk
      unfold wpOp
      simp only [ho]
      rcases hd with ⟨hwn, _, h1⟩ | ⟨hwn, hv, h1⟩ | ⟨hwn, hv, h1⟩
      · simp only [hwn g, if_true]
        have h3 := h1 g (lk listed) w hup hw
        refine .inl ?_
        unfold Oper.wp
        generalize (execOp (A g).eval o).run P w = r at h3
        cases r with
        | ok n w' =>
          cases n <;> simp only [Leaves] at h3 <;> simp only [Oper.upon]
          case value u =>
            obtain ⟨e1, e2⟩ := h3
            rw [e2]
            exact go _ _ e1
          case skip =>
            obtain ⟨e1, e2⟩ := h3
            rw [e2]
            exact go _ _ e1
          case enter f args => exact h3.mono fun e w'' ⟨he, hw''⟩ => by subst he; exact go _ _ hw''
        | halt x w' => simp only [Leaves] at h3
      · simp only [hwn g, Bool.false_eq_true, if_false]
        have := go g w (h1 g _ _ hup hw)
        rw [hv] at this
        exact this
      · simp only [hwn g, if_true]
        refine .inl ?_
        have h3 := h1 g (lk listed) w hup hw
        have key : ∀ u w', C (gset g i u) (upd (lk listed) i) w' → wpAny P .any ops Q' fuel (listed.setIfInBounds i true) ((A g).put o.dst u) w' := fun u w' hC' => by
          have := go _ _ hC'
          rw [hv] at this
          simp only [gset_same] at this
          rw [hA g (gset g i u) fun j hj => by
            by_cases hji : j = i
            · subst hji
              have : lk listed j = false := hun
              rw [this] at hj
              cases hj
            · rw [gset_other _ _ hji]]
          exact this
        unfold Oper.wp
        generalize (execOp (A g).eval o).run P w = r at h3
        cases r with
        | ok n w' =>
          cases n <;> simp only [LeavesX] at h3 <;> simp only [Oper.upon]
          case value u => exact key _ _ h3
          case enter f args => exact h3.mono fun e w'' ⟨u, he, hw''⟩ => by subst he; exact key _ _ hw''
        | halt x w' => simp only [LeavesX] at h3⟩

theorem gOp_put {i j : Nat} {oi oj : Oper} {v : (Nat → Value) → Value} (hj : ops[j]? = some oj) (hap : oi.apart ops oj = true)
    (hsi : ∀ cs b, oi.op ≠ .select cs b) (hsj : ∀ cs b, oj.op ≠ .select cs b) {K : ((Nat → Value) → Act) → Prop} {A : (Nat → Value) → Act}
    (hy : DoesG P ops C i oi v A) (h : gOp P ops C j K (fun g => (A g).put oi.dst (v g))) :
    gOp P ops C j (fun A' => DoesG P ops C i oi v A' ∧ K (fun g => (A' g).put oi.dst (v g))) A := by
  obtain ⟨h1, h2, h3⟩ := Oper.apart_spec hap
  unfold gOp at *
  simp only [hj] at *
  obtain ⟨u, hu, hn⟩ := h
  refine ⟨u, hu.of_same (fun g => (execOp_put oj hsj (A g) oi.dst (v g) h1).symm) (fun g => (wanted_put oj (A g) oi.dst (v g) h1).symm),
    hy.of_same (fun g => execOp_put oi hsi (A g) oj.dst (u g) h3) (fun g => wanted_put oi (A g) oj.dst (u g) h3), ?_⟩
  have : (fun g => ((A g).put oj.dst (u g)).put oi.dst (v g)) = fun g => ((A g).put oi.dst (v g)).put oj.dst (u g) := funext fun g => (Act.put_comm (A g) (v g) (u g) h2).symm
  rw [this]
  exact hn

theorem wpAnyG_first {Q : Array Bool → ((Nat → Value) → Act) → Prop} {i : Nat} {oi : Oper} {v : (Nat → Value) → Value} (hi : ops[i]? = some oi) (hsel : ∀ (j : Nat) (o : Oper) cs b, ops[j]? = some o → o.op ≠ .select cs b) :
    ∀ (fuel : Nat) (listed : Array Bool) (A : (Nat → Value) → Act),
      (∀ j oj, ops[j]? = some oj → j ≠ i → listed.getD j true = false → (∀ e ∈ oj.after, Region.binds .any e = true → e.on ≠ i) → oi.apart ops oj = true) →
      i ∈ Region.ready .any ops listed → DoesG P ops C i oi v A →
      wpAnyG P ops C Q fuel (listed.setIfInBounds i true) (fun g => (A g).put oi.dst (v g)) → wpAnyG P ops C Q (fuel + 1) listed A := by
  have hdo : ∀ {A : (Nat → Value) → Act} {K : ((Nat → Value) → Act) → Prop}, DoesG P ops C i oi v A → K (fun g => (A g).put oi.dst (v g)) → gOp P ops C i K A := fun hy hK => by
    unfold gOp; simp only [hi]; exact ⟨v, hy, hK⟩
  intro fuel
  induction fuel with
  | zero =>
    intro listed A _ hr hy H
    refine ⟨fun h => (by rw [h] at hr; cases hr), fun j hj => ?_⟩
    by_cases hji : j = i
    · subst hji; exact hdo hy H
    · have := ready_mono hj hji
      rw [H.1] at this
      cases this
  | succ fuel ih =>
    intro listed A hfree hr hy H
    refine ⟨fun h => (by rw [h] at hr; cases hr), fun j hj => ?_⟩
    by_cases hji : j = i
    · subst hji; exact hdo hy H
    · have h1 := H.2 j (ready_mono hj hji)
      obtain ⟨hjun, oj, hoj, hall⟩ := mem_ready.1 hj
      have hnot : ∀ e ∈ oj.after, Region.binds .any e = true → e.on ≠ i := fun e he hb heq => by
        have h1 := hall e he hb
        have h0 := (mem_ready.1 hr).1
        rw [heq] at h1
        rcases Nat.lt_or_ge i listed.size with h' | h'
        · simp [h'] at h0 h1; rw [h0] at h1; cases h1
        · simp [Array.getElem?_eq_none h'] at h1
      have h2 := gOp_put hoj (hfree j oj hoj hji hjun hnot) (fun cs b => hsel i oi cs b hi) (fun cs b => hsel j oj cs b hoj) hy h1
      have hfree' : ∀ k ok, ops[k]? = some ok → k ≠ i → (listed.setIfInBounds j true).getD k true = false →
          (∀ e ∈ ok.after, Region.binds .any e = true → e.on ≠ i) → oi.apart ops ok = true := fun k ok hk hki hun hno => by
        refine hfree k ok hk hki ?_ hno
        by_cases hjk : j = k
        · subst hjk; exact hjun
        · rw [getD_set_ne true hjk] at hun; exact hun
      refine gOp_mono (fun A' h3 => ih (listed.setIfInBounds j true) A' hfree' (ready_mono hr (Ne.symm hji)) h3.1 ?_) h2
      rw [Array.setIfInBounds_comm _ _ hji]
      exact h3.2

/-- the walk in the order of the text -/
def wpLexG (P : Program) (ops : Array Oper) (C : (Nat → Value) → (Nat → Bool) → World → Prop) (Q : ((Nat → Value) → Act) → Prop) : Nat → List Oper → ((Nat → Value) → Act) → Prop
  | _, [], A => Q A
  | k, o :: rest, A => ∃ v, DoesG P ops C k o v A ∧ wpLexG P ops C Q (k + 1) rest (fun g => (A g).put o.dst (v g))

theorem wpAnyG_lex {Q : ((Nat → Value) → Act) → Prop} (hs : Region.noSelect ops = true) : ∀ (l : List Oper) (k : Nat) (listed : Array Bool) (A : (Nat → Value) → Act), (∀ j, l[j]? = ops[k + j]?) → listed.size = k + l.length →
    (∀ j, j < k → listed.getD j true = true) →
    Region.lexFrom .any ops l.length k listed = true → wpLexG P ops C Q k l A → wpAnyG P ops C (fun l A => (∀ j, l.getD j true = true) ∧ Q A) l.length listed A
  | [], k, listed, _, _, hz, hd, hB, h => ⟨by simpa [Region.lexFrom] using hB, fun j => by
      rcases Nat.lt_or_ge j k with h' | h'
      · exact hd j h'
      · have hz' : listed.size = k := by simpa using hz
        simp [Array.getElem?_eq_none (show listed.size ≤ j by omega)], h⟩
  | o :: l, k, listed, A, hl, hz, hd, hB, h => by
    have h0 : ops[k]? = some o := by simpa using (hl 0).symm
    simp only [List.length_cons, Region.lexFrom, Bool.and_eq_true] at hB
    obtain ⟨⟨hr, hf⟩, hB'⟩ := hB
    obtain ⟨v, hy, hK⟩ := h
    have hlen : listed.size = k + l.length + 1 := by simpa [Nat.add_assoc] using hz
    exact wpAnyG_first h0 (Region.noSelect_spec hs) l.length listed A (Region.free_spec h0 hf) (by simpa using hr) hy
      (wpAnyG_lex hs l (k + 1) _ _ (fun j => by have := hl (j + 1); simpa [Nat.add_assoc, Nat.add_comm 1 j] using this) (by simp; omega)
        (fun j hj => by
          by_cases hjk : j = k
          · subst hjk; simp [show j < listed.size by omega]
          · rw [getD_set_ne true (Ne.symm hjk)]; exact hd j (by omega)) hB' hK)

/-- ONE WALK SERVES EVERY ORDER, new blocks too -/
theorem wp_region_ghost {id : Nat} {Q : Exit → Act → World → Prop} {a : Act} {w : World} {l : List Oper} (C : (Nat → Value) → (Nat → Bool) → World → Prop) (hm : P.follows .mixedOrders = true) (hB : Region.lexB .any l.toArray = true)
    (hloc : ∀ g g' L w, (∀ j, L j = true → g j = g' j) → C g L w → C g' L w)
    (hC : C (fun _ => undef) (fun j => decide (l.length ≤ j)) w.drew)
    (h : wpLexG P l.toArray C (fun A => ∀ g w', C g (fun _ => true) w' → Q .normal (A g) w') 0 l (fun _ => a)) : (Code.region id l.toArray true).wp P Q a w := by
  simp only [Region.lexB, Bool.and_eq_true] at hB
  have e0 : lk (Array.replicate l.toArray.size false) = fun j => decide (l.length ≤ j) := by
    funext j
    unfold lk
    by_cases hj : l.length ≤ j
    · simp [hj]
    · simp [hj, Nat.lt_of_not_le hj]
  refine wp_region_any hm (wpAny_of_ghost (C := C) hloc (Q := fun l A => (∀ j, l.getD j true = true) ∧ ∀ g w', C g (fun _ => true) w' → Q .normal (A g) w') (fun l' A' g w' hw' h => h.2 g w' ?_) _ _ (fun _ => a) (fun _ => undef) _ ?_ (fun _ _ _ => rfl) (by rw [e0]; exact hC) ?_)
  · have : lk l' = fun _ => true := funext h.1
    rw [← this]; exact hw'
  · rw [e0]
    intro j o ho hj
    simp only [decide_eq_true_eq] at hj
    have : l.toArray[j]? = none := by simp [hj]
    rw [this] at ho
    cases ho
  · have := wpAnyG_lex (P := P) (C := C) hB.1 l 0 (Array.replicate l.toArray.size false) (fun _ => a) (by simp) (by simp) (fun j hj => by omega) (by simpa using hB.2) h
    simpa using this

/-! ### The steps of such a walk -/
theorem lexg_nil {Q : ((Nat → Value) → Act) → Prop} {A : (Nat → Value) → Act} {k : Nat} (h : Q A) : wpLexG P ops C Q k [] A := h
theorem lexg_op {Q : ((Nat → Value) → Act) → Prop} {A : (Nat → Value) → Act} {k : Nat} {o : Oper} {rest : List Oper} (hw : ∀ g, Region.wanted o (yielded ops (A g).tmps) = true)
    (h : ∃ v : (Nat → Value) → Value, (∀ g L w, Up ops L k → C g L w → Leaves P (C g (upd L k)) (v g) ((execOp (A g).eval o).run P w)) ∧ Known ops k v ∧ wpLexG P ops C Q (k + 1) rest (fun g => (A g).put o.dst (v g))) :
    wpLexG P ops C Q k (o :: rest) A :=
  let ⟨v, h1, h2, h3⟩ := h
  ⟨v, .inl ⟨hw, h2, h1⟩, h3⟩
/-- an operation whose value is the same wherever the blocks lie -/
theorem lexg_val {Q : ((Nat → Value) → Act) → Prop} {A : (Nat → Value) → Act} {k : Nat} {o : Oper} {rest : List Oper} (hw : ∀ g, Region.wanted o (yielded ops (A g).tmps) = true)
    (h : ∃ v : Value, (∀ g L w, Up ops L k → C g L w → Leaves P (C g (upd L k)) v ((execOp (A g).eval o).run P w)) ∧ wpLexG P ops C Q (k + 1) rest (fun g => (A g).put o.dst v)) :
    wpLexG P ops C Q k (o :: rest) A :=
  let ⟨v, h1, h3⟩ := h
  ⟨fun _ => v, .inl ⟨hw, known_const k v, h1⟩, h3⟩
theorem lexg_skip {Q : ((Nat → Value) → Act) → Prop} {A : (Nat → Value) → Act} {k : Nat} {o : Oper} {rest : List Oper} (hw : ∀ g, Region.wanted o (yielded ops (A g).tmps) = false)
    (h : ∀ g L w, Up ops L k → C g L w → C g (upd L k) w) (hk : wpLexG P ops C Q (k + 1) rest (fun g => (A g).put o.dst undef)) : wpLexG P ops C Q k (o :: rest) A :=
  ⟨fun _ => undef, .inr (.inl ⟨hw, rfl, h⟩), hk⟩
/-- an operation whose value is its own ghost: a new block, an append, a call -/
theorem lexg_new {Q : ((Nat → Value) → Act) → Prop} {A : (Nat → Value) → Act} {k : Nat} {o : Oper} {rest : List Oper} (hw : ∀ g, Region.wanted o (yielded ops (A g).tmps) = true)
    (h : ∀ g L w, Up ops L k → C g L w → LeavesX P (fun u w' => C (gset g k u) (upd L k) w') ((execOp (A g).eval o).run P w))
    (hk : wpLexG P ops C Q (k + 1) rest (fun g => (A g).put o.dst (g k))) : wpLexG P ops C Q k (o :: rest) A :=
  ⟨fun g => g k, .inr (.inr ⟨hw, rfl, h⟩), hk⟩
end

#print axioms wp_region_ghost
end Go.Proofs.Ytbckfoldjlgabaa.RV
