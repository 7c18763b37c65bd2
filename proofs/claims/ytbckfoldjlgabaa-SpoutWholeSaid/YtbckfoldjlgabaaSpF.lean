/- WALKS of law07: between. WALKS of law07: between, walked. -/
import Derived.Test.YtbckfoldjlgabaaSpD
namespace Go.Proofs.Ytbckfoldjlgabaa
open Go.RowKit
open Fl (nan key canon)
theorem ownsRow_below {w w' : World} {base : Nat} {e : TypeId} {m : Nat} {v : Value} {n : Nat} {xs : List Value} (h : w.ownsRow base e m v n xs) (hb : Below w.heap.size w w') : w'.ownsRow base e m v n xs := by
  refine ⟨h.1, ?_⟩
  rcases h.2 with h | ⟨g, cap, cur, h1, h2, h3, h4⟩
  · exact .inl h
  · exact .inr ⟨g, cap, cur, h1, h2, (hb.block g (Array.getElem?_eq_some_iff.1 h3).1).trans h3, h4⟩
theorem ownsRow_base {w : World} {base base' : Nat} {e : TypeId} {m : Nat} {v : Value} {n : Nat} {xs : List Value} (h : w.ownsRow base e m v n xs) (hb : base' ≤ base) : w.ownsRow base' e m v n xs := by
  refine ⟨h.1, ?_⟩
  rcases h.2 with h | ⟨g, cap, cur, h1, h2, h3⟩
  · exact .inl h
  · exact .inr ⟨g, cap, cur, h1, Nat.le_trans hb h2, h3⟩
section
variable {w w' : World} {ba ba' : Nat} {v : Value}
theorem OwnR.keep {l : List Rc} (h : OwnR w ba v l) (hb : Below w.heap.size w w') : OwnR w' ba v l :=
  let ⟨n, p, h1, h2, h3, h4⟩ := h
  ⟨n, p, h1, h2, ownsRow_below h3 hb, h4⟩
theorem OwnI.keep {l : List Int} (h : OwnI w ba v l) (hb : Below w.heap.size w w') : OwnI w' ba v l :=
  let ⟨n, p, h1, h2, h3, h4⟩ := h
  ⟨n, p, h1, h2, ownsRow_below h3 hb, h4⟩
theorem OwnR.base {l : List Rc} (h : OwnR w ba v l) (hb : ba' ≤ ba) : OwnR w ba' v l :=
  let ⟨n, p, h1, h2, h3, h4⟩ := h
  ⟨n, p, h1, h2, ownsRow_base h3 hb, h4⟩
theorem OwnI.base {l : List Int} (h : OwnI w ba v l) (hb : ba' ≤ ba) : OwnI w ba' v l :=
  let ⟨n, p, h1, h2, h3, h4⟩ := h
  ⟨n, p, h1, h2, ownsRow_base h3 hb, h4⟩
theorem OwnR.nil (w : World) (ba : Nat) : OwnR w ba (.slice none 0 0) [] := ⟨0, fun _ => ⟨0, 0⟩, rfl, fun i hi => absurd hi (Nat.not_lt_zero _), World.ownsRow_nil _ _ _ _, by omega⟩
theorem OwnI.nil (w : World) (ba : Nat) : OwnI w ba (.slice none 0 0) [] := ⟨0, fun _ => 0, rfl, fun i hi => absurd hi (Nat.not_lt_zero _), World.ownsRow_nil _ _ _ _, by omega⟩
theorem OwnR.lt {l : List Rc} (h : OwnR w ba v l) : ∀ k, v.ownBlock = some k → ba ≤ k ∧ k < w.heap.size :=
  let ⟨_, _, _, _, h3, _⟩ := h
  h3.lt
theorem OwnI.lt {l : List Int} (h : OwnI w ba v l) : ∀ k, v.ownBlock = some k → ba ≤ k ∧ k < w.heap.size :=
  let ⟨_, _, _, _, h3, _⟩ := h
  h3.lt
theorem Src.keep {sb pb : Nat} {lv mv : Value} {lg : Nat → Value} {s : St} (h : Src w sb pb lv mv lg s) (hb : Below w.heap.size w w') : Src w' sb pb lv mv lg s :=
  ⟨h.ok, h.hd.below hb, h.pt.below hb, fun i hi => (h.rc i hi).keep hb⟩
end
theorem toL_append {α : Type} {n k : Nat} {p q : Nat → α} : toL n p ++ toL k q = toL (n + k) (fun i => if i < n then p i else q (i - n)) := by
  apply List.ext_getElem?
  intro i
  by_cases h : i < n
  · rw [List.getElem?_append_left (by rw [toL_len]; exact h), toL_get h, toL_get (by omega), if_pos h]
  · rw [List.getElem?_append_right (by rw [toL_len]; omega), toL_len]
    by_cases h2 : i < n + k
    · rw [toL_get (by omega), toL_get h2, if_neg h]
    · rw [List.getElem?_eq_none (by rw [toL_len]; omega), List.getElem?_eq_none (by rw [toL_len]; omega)]
theorem toL_slice {α : Type} {n lo k : Nat} {p : Nat → α} (h : lo + k ≤ n) : ((toL n p).drop lo).take k = toL k (fun i => p (lo + i)) := by
  apply List.ext_getElem?
  intro i
  by_cases hi : i < k
  · rw [List.getElem?_take_of_lt hi, List.getElem?_drop, toL_get (by omega), toL_get hi]
  · rw [List.getElem?_eq_none (by rw [List.length_take]; omega), List.getElem?_eq_none (by rw [toL_len]; omega)]
/-- records appended, in whatever world -/
theorem run_append_recs {w : World} {base : Nat} {v sv : Value} {l l' : List Rc} (hv : OwnR w base v l) (hs : Recs w sv l') (hb : base ≤ w.heap.size) (hl : l.length + l'.length ≤ 8796093021952) (ty : TypeId) (hty : ty = 22) :
    ∃ v' w', (Builtin.append_ #[22, 22] ty #[v, sv]).run Try.prog w = .ok v' w' ∧ OwnR w' base v' (l ++ l') ∧ w.grownBy w' v.ownBlock ∧ (v'.ownBlock = v.ownBlock ∨ v'.ownBlock = some w.heap.size) := by
  subst hty
  obtain ⟨i0, hi, hz0, hz1, hz2⟩ := info_parts infoRec
  obtain ⟨n, p, rfl, hp, ho, hn⟩ := hv
  obtain ⟨a, k, cap, b, o, q, rfl, rfl, ha, hr, hc, hm⟩ := hs
  rw [toL_len, toL_len] at hl
  have hE : flat (both (rcc p) n (rcc q)) (n + k) = flat (rcc (fun i => if i < n then p i else q (i - n))) (n + k) := flat_congr fun i _ => by
    by_cases h : i < n
    · simp only [both, rcc, if_pos h]
    · simp only [both, rcc, if_neg h]
  have hok : ∀ i, i < n + k → ((fun i => if i < n then p i else q (i - n)) i).ok := fun i hi => by
    show (if i < n then p i else q (i - n)).ok
    split
    · exact hp i (by omega)
    · exact (hr (by omega)).ok _ (by omega)
  by_cases hk : k = 0
  · subst hk
    cases a with
    | none => exact ⟨_, w, run_append_none (P := Try.prog) w base _ _ 66 i0 2 Try.underlying22 hi v n _ ho cap, ⟨n, p, by simp [toL], hp, ho, hn⟩, World.grownBy.refl w _, .inl rfl⟩
    | some ad =>
      obtain ⟨v', w', h1, h2, h3, _, h5⟩ := run_append_own_at (P := Try.prog) w base _ 22 66 i0 _ 2 16 Try.underlying22 hi hz0 hz1 hz2 rfl (by decide) v n (flat (rcc p) n) ho ad 0 cap [] (by simp) (by simp) (by simp) (by unfold maxLen; omega) (by omega) hb
      exact ⟨v', w', h1, ⟨n, p, by simp [toL], hp, by simpa using h2, hn⟩, h3, h5⟩
  · obtain rfl := ha (by omega)
    have L := (hr (by omega)).lies
    obtain ⟨v', w', h1, h2, h3, _, h5⟩ := run_append_own_at (P := Try.prog) w base _ 22 66 i0 _ 2 16 Try.underlying22 hi hz0 hz1 hz2 rfl (by decide) v n (flat (rcc p) n) ho ⟨b, o, none⟩ k cap (flat (rcc q) k) (flat_len (rcc_len q) k) (L.news (rcc_len q)) (fun u hu => by obtain ⟨j, _, hj⟩ := flat_mem hu; exact rcc_one q j u hj) (by unfold maxLen; omega) (by omega) hb
    rw [flat_add, hE] at h2
    exact ⟨v', w', h1, ⟨n + k, _, toL_append, hok, h2, by omega⟩, h3, h5⟩
theorem addr_add (b o k : Nat) : (⟨b, o, none⟩ : Addr).add k = ⟨b, o + k, none⟩ := by
  unfold Addr.add
  split
  · rename_i h0; rw [h0]; rfl
  · rfl
set_option maxRecDepth 100000 in
/-- records of a slice -/
theorem run_slice_recs {w : World} {v : Value} {l : List Rc} (h : Recs w v l) {lo hi : Int} (h0 : 0 ≤ lo) (h1 : lo ≤ hi) (h2 : hi ≤ (l.length : Int)) :
    ∃ v', (Instr.sliceAt 22 v (some (.int .i64 lo)) (some (.int .i64 hi)) none).run Try.prog w = .ok v' w ∧ Recs w v' ((l.drop lo.toNat).take (hi.toNat - lo.toNat)) := by
  obtain ⟨a, n, cap, b, o, p, rfl, rfl, ha, hr, hc, hm⟩ := h
  rw [toL_len] at h2
  refine ⟨sliced a lo.toNat hi.toNat cap 2, ?_, ?_⟩
  · rw [run_sliceAt_slice _ _ _ _ _ _ Try.underlying22, run_slice_lh _ _ _ _ _ Try.underlying22 _ _ _ _ h0 h1 (by omega)]
    exact (congrArg (fun r => r.andThen fun s w => Result.ok (sliced a lo.toNat hi.toNat cap s) w) (Try.sizeOf66 w))
  · rw [toL_slice (by omega)]
    refine ⟨_, hi.toNat - lo.toNat, cap - lo.toNat, b, o + lo.toNat * 2, _, rfl, rfl, fun hk => ?_, fun hk => ?_, by omega, by omega, by omega⟩
    · rw [if_neg (by omega), ha (by omega)]
      show some ((⟨b, o, none⟩ : Addr).add _) = _
      rw [addr_add]
    · have hd := ((hr (by omega)).lies.drop (k := lo.toNat) (by omega)).take (k := hi.toNat - lo.toNat) (by omega)
      exact Lies.rcs (p := fun i => p (lo.toNat + i)) hd (fun i hi' => (hr (by omega)).ok _ (by omega))
end Go.Proofs.Ytbckfoldjlgabaa
namespace Go.Proofs.Ytbckfoldjlgabaa
open Go.RowKit
open Fl (nan key canon)
theorem Closed.yes {ops : Array Oper} {L : Nat → Bool} (h : Closed ops L) {j m : Nat} {o : Oper} (hj : ops[j]? = some o) (hL : L j = true) (hd : o.after.any (fun e => Region.binds .any e && e.on == m) = true) : L m = true := by
  obtain ⟨e, he, hb⟩ := Array.any_eq_true'.1 hd
  simp only [Bool.and_eq_true, beq_iff_eq] at hb
  exact hb.2 ▸ h j o hj hL e he hb.1
theorem lx_ok {P : Program} {T : Value → World → Prop} {r : Result Next} {u : Value} {w' : World} (hr : r = .ok (.value u) w') (hT : T u w') : RV.LeavesX P T r := by subst hr; exact hT
theorem lx_call {P : Program} {T : Value → World → Prop} {r : Result Next} {f : FuncId} {args : Array Value} {w' : World} (hr : r = .ok (.enter f args) w') (h : Calls P f args w' fun e w'' => ∃ u, e = .returned u ∧ T u w'') : RV.LeavesX P T r := by subst hr; exact h
theorem lx_append {P : Program} {T : Value → World → Prop} {ev : Operand → Value} {o : Oper} {s x : Operand} {t : TypeId} {v sv u : Value} {w' w'' : World} (ho : o.op = .call { callee := .builtin .append, args := #[s, x], argTypes := #[t, t] }) (hs : ev s = v) (hx : ev x = sv)
    (hr : (Builtin.append_ #[t, t] o.type #[v, sv]).run P w' = .ok u w'') (hT : T u w'') : RV.LeavesX P T ((execOp ev o).run P w') := by
  refine lx_ok (u := u) (w' := w'') ?_ hT
  unfold execOp
  simp only [ho, resolve, invoke, builtin, Sem.run_bind, Sem.run_pure, Result.andThen_ok, List.map_toArray, List.map_cons, List.map_nil, hs, hx, hr]
theorem known_get {ops : Array Oper} {k m : Nat} {o : Oper} (hk : ops[k]? = some o) (hd : o.after.any (fun e => Region.binds .any e && e.on == m) = true) : RV.Known ops k (fun g => g m) := fun _ _ h => h m (Anc.on hk hd)
/-- the worlds of 'out = append(out, f(..)[lo:hi]...)': kc the call, ks the slice, ka the append -/
structure BtC (w0 W : World) (v : Value) (l lg seg : List Rc) (kc ks ka : Nat) (g : Nat → Value) (L : Nat → Bool) (w' : World) : Prop where
  bel : Below w0.heap.size w0 w'
  ext : L ka = false → Below W.heap.size W w'
  own : L ka = false → OwnR w' w0.heap.size v l
  call : L kc = true → L ka = false → Recs w' (g kc) lg
  sl : L ks = true → L ka = false → Recs w' (g ks) seg
  fin : L ka = true → OwnR w' w0.heap.size (g ka) (l ++ seg)
section
variable {w0 W w' w'' : World} {v u : Value} {l lg seg : List Rc} {kc ks ka : Nat} {g : Nat → Value} {L : Nat → Bool}
theorem BtC.loc (g g' : Nat → Value) (L : Nat → Bool) (w' : World) (he : ∀ i, L i = true → g i = g' i) (h : BtC w0 W v l lg seg kc ks ka g L w') : BtC w0 W v l lg seg kc ks ka g' L w' :=
  ⟨h.bel, h.ext, h.own, fun a b => by rw [← he _ a]; exact h.call a b, fun a b => by rw [← he _ a]; exact h.sl a b, fun a => by rw [← he _ a]; exact h.fin a⟩
theorem BtC.begin (n : Nat) (h1 : kc < n) (h2 : ks < n) (h3 : ka < n) (hb : Below w0.heap.size w0 w') (ho : OwnR w' w0.heap.size v l) : BtC w0 w' v l lg seg kc ks ka g (fun j => decide (n ≤ j)) w'.drew :=
  ⟨bel_drew hb, fun _ => (Below.refl _ _).drew, fun _ => ho.keep (Below.refl _ _).drew, fun a => by simp at a; omega, fun a => by simp at a; omega, fun a => by simp at a; omega⟩
theorem BtC.upd (h : BtC w0 W v l lg seg kc ks ka g L w') {i : Nat} (hi : (i != kc && i != ks && i != ka) = true) : BtC w0 W v l lg seg kc ks ka g (upd L i) w' := by
  simp only [Bool.and_eq_true, bne_iff_ne, ne_eq] at hi
  obtain ⟨⟨h1, h2⟩, h3⟩ := hi
  have e1 := upd_other L (Ne.symm h1)
  have e2 := upd_other L (Ne.symm h2)
  have e3 := upd_other L (Ne.symm h3)
  exact ⟨h.bel, by rw [e3]; exact h.ext, by rw [e3]; exact h.own, by rw [e1, e3]; exact h.call, by rw [e2, e3]; exact h.sl, by rw [e3]; exact h.fin⟩
theorem BtC.doCall (h : BtC w0 W v l lg seg kc ks ka g L w') (hn : (kc != ks && kc != ka) = true) (hka : L ka = false) (hks : L ks = false) (hv : OwnR w'' w'.heap.size u lg) (hb : Below w'.heap.size w' w'') : BtC w0 W v l lg seg kc ks ka (RV.gset g kc u) (Go.Proofs.Ytbckfoldjlgabaa.upd L kc) w'' := by
  simp only [Bool.and_eq_true, bne_iff_ne, ne_eq] at hn
  have e2 := upd_other L (Ne.symm hn.1)
  have e3 := upd_other L (Ne.symm hn.2)
  exact ⟨bel_call h.bel hb, fun _ => bel_call (h.ext hka) hb, fun _ => (h.own hka).keep hb, fun _ _ => (RV.gset_same g kc u).symm ▸ hv.recs, fun a => absurd (e2.symm.trans a) (by rw [hks]; decide), fun a => absurd (e3.symm.trans a) (by rw [hka]; decide)⟩
theorem BtC.doSame (h : BtC w0 W v l lg seg kc ks ka g L w') (hn : (kc != ks && kc != ka) = true) (hka : L ka = false) (hks : L ks = false) (hv : Recs w' u lg) : BtC w0 W v l lg seg kc ks ka (RV.gset g kc u) (Go.Proofs.Ytbckfoldjlgabaa.upd L kc) w' := by
  simp only [Bool.and_eq_true, bne_iff_ne, ne_eq] at hn
  have e2 := upd_other L (Ne.symm hn.1)
  have e3 := upd_other L (Ne.symm hn.2)
  exact ⟨h.bel, fun _ => h.ext hka, fun _ => h.own hka, fun _ _ => (RV.gset_same g kc u).symm ▸ hv, fun a => absurd (e2.symm.trans a) (by rw [hks]; decide), fun a => absurd (e3.symm.trans a) (by rw [hka]; decide)⟩
theorem BtC.doSlice (h : BtC w0 W v l lg seg kc ks ka g L w') (hn : (ks != kc && ks != ka) = true) (hka : L ka = false) (hs : Recs w' u seg) : BtC w0 W v l lg seg kc ks ka (RV.gset g ks u) (Go.Proofs.Ytbckfoldjlgabaa.upd L ks) w' := by
  simp only [Bool.and_eq_true, bne_iff_ne, ne_eq] at hn
  have e1 := upd_other L (Ne.symm hn.1)
  have e3 := upd_other L (Ne.symm hn.2)
  exact ⟨h.bel, fun _ => h.ext hka, fun _ => h.own hka, fun a b => by rw [e1] at a; rw [e3] at b; rw [RV.gset_other _ _ (Ne.symm hn.1)]; exact h.call a b, fun _ _ => by rw [RV.gset_same]; exact hs, fun a => absurd (e3.symm.trans a) (by rw [hka]; decide)⟩
theorem BtC.doAppend (h : BtC w0 W v l lg seg kc ks ka g L w') (hka : L ka = false) (ho : OwnR w'' w0.heap.size u (l ++ seg)) (hg : w'.grownBy w'' v.ownBlock) : BtC w0 W v l lg seg kc ks ka (RV.gset g ka u) (Go.Proofs.Ytbckfoldjlgabaa.upd L ka) w'' :=
  ⟨h.bel.grown hg h.bel.size (fun k hk => ((h.own hka).lt k hk).1), fun a => absurd ((upd_same L ka).symm.trans a) (by decide), fun a => absurd ((upd_same L ka).symm.trans a) (by decide), fun _ a => absurd ((upd_same L ka).symm.trans a) (by decide), fun _ a => absurd ((upd_same L ka).symm.trans a) (by decide), fun _ => by rw [RV.gset_same]; exact ho⟩
end
/-- the records of a partition between two ends -/
def seg (s : St) (l l' : List Int) (i : Nat) : List Rc := ((s.log i).drop (l.getD i 0).toNat).take ((l'.getD i 0).toNat - (l.getD i 0).toNat)
/-- .. of the first n partitions -/
def betw (s : St) (l l' : List Int) (n : Nat) : List Rc := (List.range n).flatMap (seg s l l')
theorem betw_succ (s : St) (l l' : List Int) (n : Nat) : betw s l l' (n + 1) = betw s l l' n ++ seg s l l' n := by
  unfold betw
  rw [List.range_succ, List.flatMap_append]
  simp
theorem seg_len {s : St} (hs : s.ok) (l l' : List Int) {i : Nat} (hi : i < s.n) : (seg s l l' i).length ≤ 256 := by
  unfold seg
  rw [List.length_take, List.length_drop]
  have := hs.le i hi
  omega
theorem betw_len {s : St} (hs : s.ok) (l l' : List Int) : ∀ {n : Nat}, n ≤ s.n → (betw s l l' n).length ≤ n * 256
  | 0, _ => by simp [betw]
  | n + 1, h => by
    rw [betw_succ, List.length_append]
    have h1 := betw_len hs l l' (n := n) (by omega)
    have h2 := seg_len hs l l' (i := n) (by omega)
    omega
section
variable {w : World} {sb pb : Nat} {lv mv : Value} {lg : Nat → Value} {s : St}
set_option maxRecDepth 100000 in
set_option maxHeartbeats 4000000 in
theorem sbetween_any {v v' : Value} {l l' : List Int} (hs : Src w sb pb lv mv lg s) (h : Ints w v l) (h' : Ints w v' l') (hl : l.length = s.n) (hl' : l'.length = s.n)
    (hf : ∀ i, i < s.n → 0 ≤ l.getD i 0 ∧ l.getD i 0 ≤ l'.getD i 0 ∧ l'.getD i 0 ≤ (s.log i).length) :
    Calls Try.prog 34 #[.pointer (some ⟨sb, 0, none⟩), v, v'] w fun e w' => ∃ r, e = .returned r ∧ OwnR w' w.heap.size r (betw s l l' s.n) ∧ Below w.heap.size w w' := by
  have HF := Lib.hid hf
  obtain ⟨a, n, cap, b, o, p, rfl, hlp, ha, hr, hc, hm⟩ := h
  obtain ⟨a', n', cap', b', o', p', rfl, hlp', ha', hr', hc', hm'⟩ := h'
  obtain rfl : s.n = n := by rw [← hl, hlp, toL_len]
  obtain rfl : s.n = n' := by rw [← hl', hlp', toL_len]
  have hp : ∀ i, i < s.n → l.getD i 0 = p i := fun i hi => by rw [hlp, toL_getD hi]
  have hp' : ∀ i, i < s.n → l'.getD i 0 = p' i := fun i hi => by rw [hlp', toL_getD hi]
  have HP := Lib.hid hp
  have HP' := Lib.hid hp'
  have HR := Lib.hid hr
  have HA := Lib.hid ha
  have HR' := Lib.hid hr'
  have HA' := Lib.hid ha'
  have HS := Lib.hid hs
  have hn4 := hs.ok.n4
  clear hr ha hc hm hr' ha' hc' hm' hp hp' hf hlp hlp' hl hl'
  obtain ⟨N, hN⟩ : ∃ N, s.n = N := ⟨_, rfl⟩
  have HN := Lib.hid hN
  rw [hN] at HF HP HP' HR HA HR' HA' hn4
  rw [hN]
  clear hN hs
  go_enter Try.func34, Try.ntmps34
  go_wp2_with fail
  go_loopg [7, 11] N (fun g s7 s11 wr => ∃ (i : Nat), i ≤ N ∧ g = N - i ∧ s11 = .int .i64 i ∧ OwnR wr w.heap.size s7 (betw s l l' i) ∧ Below w.heap.size w wr)
  case atStart => exact ⟨0, Nat.zero_le _, rfl, rfl, OwnR.nil _ _, Below.refl _ _⟩
  case round =>
    obtain ⟨i, hi, rfl, rfl, own, q⟩ := hrel
    by_cases hlt : i < N
    · obtain rfl := HA.out (by omega)
      obtain rfl := HA'.out (by omega)
      have hz2 : (i : Int) < (N : Int) := by omega
      have hw1 : IntKind.i64.wrap ((i : Int) + 1) = (i : Int) + 1 := Go.IntWalk.i64_in _ (by omega)
      have r1 := HR.out (by omega)
      have r2 := HR'.out (by omega)
      have x0 := r1.c i hlt
      have y0 := r2.c i hlt
      have z1 := r1.lt
      have z2 := r2.lt
      have hF := HF.out i hlt
      rw [HP.out i hlt, HP'.out i hlt] at hF
      have HG := Lib.hid hF
      have C1 := Lib.hid (fun W (hW : Below w.heap.size w W) => slog_any (HS.out.keep hW) (p := i) (HN.out ▸ hlt))
      have HO := Lib.hid own
      have hE : seg s l l' i = ((s.log i).drop (p i).toNat).take ((p' i).toNat - (p i).toNat) := by unfold seg; rw [HP.out i hlt, HP'.out i hlt]
      have HE := Lib.hid hE
      clear r1 r2 HR HR' hF own hE
      go_wp2_with fail
      refine RV.wp_region_ghost (BtC w wr u7 (betw s l l' i) (s.log i) (seg s l l' i) 3 12 13) (by kernel_rfl) (by kernel_rfl) BtC.loc (.begin _ (by decide) (by decide) (by decide) q HO.out) ?_
      refine RV.lexg_val (fun _ => by rfl) ?_; apply Exists.intro; refine ⟨?_, ?_⟩; ((intro g L w' hU hT; have hT' := hT.upd (i := 0) (by decide); obtain ⟨hc, hf⟩ := bcell hT.bel; clear hT hU; go_simp; exact rfl)); simp only [Act.put, List.setIfInBounds_toArray, List.set_cons_zero, List.set_cons_succ]
      refine RV.lexg_val (fun _ => by rfl) ?_; apply Exists.intro; refine ⟨?_, ?_⟩; ((intro g L w' hU hT; have hT' := hT.upd (i := 1) (by decide); obtain ⟨hc, hf⟩ := bcell hT.bel; clear hT hU; go_simp; exact rfl)); simp only [Act.put, List.setIfInBounds_toArray, List.set_cons_zero, List.set_cons_succ]
      refine RV.lexg_val (fun _ => by rfl) ?_; apply Exists.intro; refine ⟨?_, ?_⟩; ((intro g L w' hU hT; have hT' := hT.upd (i := 2) (by decide); obtain ⟨hc, hf⟩ := bcell hT.bel; clear hT hU; go_simp; exact rfl)); simp only [Act.put, List.setIfInBounds_toArray, List.set_cons_zero, List.set_cons_succ]
      refine RV.lexg_new (fun _ => by rfl) ?_ ?_
      · intro g L w' hU hT
        have h12 := hU.closed.no (j := 12) (i := 3) rfl (by kernel_rfl) hU.not
        have h13 := hU.closed.no (j := 13) (i := 12) rfl (by kernel_rfl) h12
        refine lx_call (f := 46) (args := #[.pointer (some ⟨sb, 0, none⟩), .int .i64 i]) (w' := w') (by go_simp) ((C1.out _ hT.bel).mono ?_)
        rintro e w'' ⟨u, rfl, hv, hb⟩
        exact ⟨u, rfl, hT.doCall (by decide) h13 h12 hv hb⟩
      simp only [Act.put, List.setIfInBounds_toArray, List.set_cons_zero, List.set_cons_succ]
      refine RV.lexg_val (fun _ => by rfl) ?_; apply Exists.intro; refine ⟨?_, ?_⟩; ((intro g L w' hU hT; have hT' := hT.upd (i := 4) (by decide); obtain ⟨hc, hf⟩ := bcell hT.bel; clear hT hU; go_simp; exact rfl)); simp only [Act.put, List.setIfInBounds_toArray, List.set_cons_zero, List.set_cons_succ]
      refine RV.lexg_val (fun _ => by rfl) ?_; apply Exists.intro; refine ⟨?_, ?_⟩; ((intro g L w' hU hT; have hT' := hT.upd (i := 5) (by decide); obtain ⟨hc, hf⟩ := bcell hT.bel; clear hT hU; go_simp; exact rfl)); simp only [Act.put, List.setIfInBounds_toArray, List.set_cons_zero, List.set_cons_succ]
      refine RV.lexg_val (fun _ => by rfl) ?_; apply Exists.intro; refine ⟨?_, ?_⟩; ((intro g L w' hU hT; have hT' := hT.upd (i := 6) (by decide); obtain ⟨hc, hf⟩ := bcell hT.bel; clear hT hU; go_simp; exact rfl)); simp only [Act.put, List.setIfInBounds_toArray, List.set_cons_zero, List.set_cons_succ]
      refine RV.lexg_val (fun _ => by rfl) ?_; apply Exists.intro; refine ⟨?_, ?_⟩; ((intro g L w' hU hT; have hT' := hT.upd (i := 7) (by decide); obtain ⟨hc, hf⟩ := bcell hT.bel; clear hT hU; go_simp; exact rfl)); simp only [Act.put, List.setIfInBounds_toArray, List.set_cons_zero, List.set_cons_succ]
      refine RV.lexg_val (fun _ => by rfl) ?_; apply Exists.intro; refine ⟨?_, ?_⟩; ((intro g L w' hU hT; have hT' := hT.upd (i := 8) (by decide); obtain ⟨hc, hf⟩ := bcell hT.bel; clear hT hU; go_simp; exact rfl)); simp only [Act.put, List.setIfInBounds_toArray, List.set_cons_zero, List.set_cons_succ]
      refine RV.lexg_val (fun _ => by rfl) ?_; apply Exists.intro; refine ⟨?_, ?_⟩; ((intro g L w' hU hT; have hT' := hT.upd (i := 9) (by decide); obtain ⟨hc, hf⟩ := bcell hT.bel; clear hT hU; go_simp; exact rfl)); simp only [Act.put, List.setIfInBounds_toArray, List.set_cons_zero, List.set_cons_succ]
      refine RV.lexg_val (fun _ => by rfl) ?_; apply Exists.intro; refine ⟨?_, ?_⟩; ((intro g L w' hU hT; have hT' := hT.upd (i := 10) (by decide); obtain ⟨hc, hf⟩ := bcell hT.bel; clear hT hU; go_simp; exact rfl)); simp only [Act.put, List.setIfInBounds_toArray, List.set_cons_zero, List.set_cons_succ]
      refine RV.lexg_val (fun _ => by rfl) ?_; apply Exists.intro; refine ⟨?_, ?_⟩; ((intro g L w' hU hT; have hT' := hT.upd (i := 11) (by decide); obtain ⟨hc, hf⟩ := bcell hT.bel; clear hT hU; go_simp; exact rfl)); simp only [Act.put, List.setIfInBounds_toArray, List.set_cons_zero, List.set_cons_succ]
      refine RV.lexg_new (fun _ => by rfl) ?_ ?_
      · intro g L w' hU hT
        have h13 := hU.closed.no (j := 13) (i := 12) rfl (by kernel_rfl) hU.not
        have h3 : L 3 = true := hU.yes rfl (by kernel_rfl)
        obtain ⟨u, h1, h2⟩ := run_slice_recs (hT.call h3 h13) HG.out.1 HG.out.2.1 HG.out.2.2
        rw [← HE.out] at h2
        refine lx_ok (u := u) (w' := w') ?_ (hT.doSlice (by decide) h13 h2)
        clear hT hU HO
        go_simp
      simp only [Act.put, List.setIfInBounds_toArray, List.set_cons_zero, List.set_cons_succ]
      refine RV.lexg_new (fun _ => by rfl) ?_ ?_
      · intro g L w' hU hT
        have h12 : L 12 = true := hU.yes rfl (by kernel_rfl)
        have hn7 := (HS.out.ok)
        obtain ⟨u, w'', h1, h2, h3, _⟩ := run_append_recs (hT.own hU.not) (hT.sl h12 hU.not) hT.bel.size (by have h1 := betw_len hn7 l l' (n := i) (by have := HN.out; omega); have h2 := seg_len hn7 l l' (i := i) (by have := HN.out; omega); omega) 22 rfl
        exact lx_append rfl rfl rfl h1 (hT.doAppend hU.not h2 h3)
      simp only [Act.put, List.setIfInBounds_toArray, List.set_cons_zero, List.set_cons_succ]
      refine RV.lexg_op (fun _ => by rfl) ?_
      refine ⟨fun g => g 13, ?_, known_get (by rfl) (by kernel_rfl), ?_⟩
      · intro g L w' hU hT
        have hT' := hT.upd (i := 14) (by decide)
        clear hT hU
        go_simp
      simp only [Act.put, List.setIfInBounds_toArray, List.set_cons_zero, List.set_cons_succ]
      refine RV.lexg_nil ?_
      intro g w2 hT
      have p2 := hT.bel
      have own2 := hT.fin rfl
      rw [← betw_succ] at own2
      clear hT
      dsimp only
      generalize g 13 = v13 at *
      go_wp2_with fail
      go_roundg (N - (i + 1))
      case measure => omega
      case rel => exact ⟨i + 1, hlt, rfl, (by first | rfl | simp), own2, p2⟩
    · obtain rfl : i = N := by omega
      have hz2 : ¬ ((i : Int) < (i : Int)) := by omega
      go_wp2_with fail
      go_ret
      exact ⟨_, rfl, own, q⟩
end
end Go.Proofs.Ytbckfoldjlgabaa
