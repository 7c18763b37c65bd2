/- WALKS of law07: Produce. WALKS of law07: New. WALKS of law07: the document's New. -/
import Derived.Test.YtbckfoldjlgabaaSpQ
import Derived.Laws.OwnMore
namespace Go.Proofs.Ytbckfoldjlgabaa
open Go.RowKit Go.Maps
open Fl (nan key canon)
theorem lawU : Keyed Try.prog 63 := int_keyed Try.underlying63
theorem zeroUnit (w : World) : (zeroValue 100).run Try.prog w = .ok (.agg #[]) w := by kernel_rfl
theorem wf_u64 {k : Int} (h : 0 ≤ k ∧ k ≤ 18446744073709551615) : (Lit.int .u64 k).wf = true := by
  simp only [Lit.wf, Bool.and_eq_true, decide_eq_true_eq]
  exact h
theorem tight {H : Type} {P : Program} {k : TypeId} {R : Value → Option (DataW H × List MemPlace)} {w : World} {b n : Nat} {D : DataW H} (h : w.ownsMap P k R b n D) : w.ownsMap P k R b (Maps.size D) D := by
  obtain ⟨es, clock, hb, F, _, rfl⟩ := h
  exact ⟨es, clock, hb, F, by simp [Maps.size, length_sorted], rfl⟩
/-- the map of block mb holds just these keys -/
def MapOk (w : World) (mb : Nat) (K : List Int) : Prop :=
  ∃ D : DataW Unit, w.ownsMap Try.prog 63 unitElem mb K.length D ∧ Maps.size D = K.length ∧ ∀ k, 0 ≤ k ∧ k ≤ 18446744073709551615 → Maps.has D (.int .u64 k) = decide (k ∈ K)
theorem MapOk.same {w : World} {mb : Nat} {K K' : List Int} (h : MapOk w mb K) (hl : K.length = K'.length) (hm : ∀ x, x ∈ K' ↔ x ∈ K) : MapOk w mb K' := by
  obtain ⟨D, h1, h2, h3⟩ := h
  exact ⟨D, hl ▸ h1, h2.trans hl, fun k hk => (h3 k hk).trans (decide_eq_decide.2 (hm k).symm)⟩
theorem MapOk.upd {w w' : World} {mb : Nat} {K : List Int} {X : Nat → Prop} (h : MapOk w mb K) (hu : Upd w w' X) (hx : ¬ X mb) : MapOk w' mb K := by
  obtain ⟨D, ⟨es, clock, hb, r⟩, h2, h3⟩ := h
  exact ⟨D, ⟨es, clock, (hu.block mb (Array.getElem?_eq_some_iff.1 hb).1 hx).trans hb, r⟩, h2, h3⟩
theorem MapOk.kind {w : World} {mb : Nat} {K : List Int} (h : MapOk w mb K) : ∃ es clock, w.heap[mb]? = some (.map es clock) := by
  obtain ⟨D, ⟨es, clock, hb, r⟩, _⟩ := h
  exact ⟨es, clock, hb⟩
theorem MapOk.ne {w : World} {mb b : Nat} {K : List Int} {t : TypeId} (h : MapOk w mb K) (h' : ∃ c, w.heap[b]? = some (.cells c t (0, 0))) : b ≠ mb := by
  rintro rfl
  obtain ⟨es, clock, h⟩ := h.kind
  obtain ⟨c, h'⟩ := h'
  rw [h] at h'
  cases h'
theorem map_put {w : World} {mb n : Nat} {K K' : List Int} {D : DataW Unit} {kk : Int} (hk : 0 ≤ kk ∧ kk ≤ 18446744073709551615) (h : w.ownsMap Try.prog 63 unitElem mb n (D.put (.int .u64 kk) (.agg []))) (ht : Tidy D) (h2 : Maps.size D = K.length)
    (h3 : ∀ k, 0 ≤ k ∧ k ≤ 18446744073709551615 → Maps.has D (.int .u64 k) = decide (k ∈ K)) (hl : K'.length = if kk ∈ K then K.length else K.length + 1) (hm : ∀ x, x ∈ K' ↔ x ∈ K ∨ kk = x) : MapOk w mb K' := by
  have hs : Maps.size (D.put (.int .u64 kk) (.agg [])) = K'.length := by
    rw [size_put ht, h3 kk hk, hl, h2]
    by_cases hin : kk ∈ K
    · rw [if_pos hin, decide_eq_true hin, if_pos rfl]
    · rw [if_neg hin, decide_eq_false hin, if_neg (by decide)]
  refine ⟨_, hs ▸ tight h, hs, fun k hk' => ?_⟩
  by_cases he : k = kk
  · subst he
    rw [has_put_same ht.isMap (by trivial), decide_eq_true ((hm k).2 (.inr rfl))]
  · rw [has_put_other (fun h => he (by cases h; rfl)), h3 k hk']
    exact decide_eq_decide.2 ⟨fun h => (hm k).2 (.inl h), fun h => ((hm k).1 h).elim id (fun h => absurd h.symm he)⟩
/-- a source, with all that a record more wants -/
structure SrcF (w : World) (base sb pb mb : Nat) (lv : Value) (lg : Nat → Value) (s : St) : Prop where
  src : Src w sb pb lv (.map (some mb)) lg s
  lst : Lst w lv
  map : MapOk w mb (kpre s s.n)
  k64 : (kpre s s.n).length ≤ 64
  sep : ∀ i j b, i < s.n → j < s.n → i ≠ j → (lg i).ownBlock = some b → (lg j).ownBlock ≠ some b
  low : base ≤ sb ∧ base ≤ pb ∧ base ≤ mb
  lowl : ∀ i b, i < s.n → (lg i).ownBlock = some b → base ≤ b
section
variable {w w5 w6 : World} {base sb pb mb : Nat} {lv : Value} {lg : Nat → Value} {s : St} {p : Nat} {r : Rc} {V v' : Value}
theorem Upd.wide {w' : World} {X Y : Nat → Prop} (h : Upd w w' X) (hs : ∀ b, X b → Y b) : Upd w w' Y := ⟨h.os, h.tape, h.output, h.size, fun b hb hn => h.block b hb (fun hx => hn (hs b hx))⟩
theorem MapOk.keep {w' : World} {K : List Int} (h : MapOk w mb K) (hb : Below w.heap.size w w') : MapOk w' mb K := h.upd (.of_below (X := fun _ => False) hb) id
theorem SrcF.keep {w' : World} (h : SrcF w base sb pb mb lv lg s) (hb : Below w.heap.size w w') : SrcF w' base sb pb mb lv lg s :=
  ⟨h.src.keep hb, h.lst.keep hb, h.map.keep hb, h.k64, h.sep, h.low, h.lowl⟩
theorem Src.upd {w' : World} {mv : Value} {X : Nat → Prop} (h : Src w sb pb lv mv lg s) (hu : Upd w w' X) (h1 : ¬ X sb) (h2 : ¬ X pb) (h3 : ∀ i b, i < s.n → (lg i).ownBlock = some b → ¬ X b) : Src w' sb pb lv mv lg s :=
  ⟨h.ok, h.hd.upd hu h1, h.pt.upd hu h2, fun i hi => (h.rc i hi).upd hu (fun b hb => h3 i b hi hb)⟩
theorem SrcF.turned (h : SrcF w base sb pb mb lv lg s) (hu : Upd w w5 (fun b => b = mb)) : Src w5 sb pb lv (.map (some mb)) lg s ∧ Lst w5 lv :=
  ⟨h.src.upd hu (h.map.ne h.src.hd.kind) (h.map.ne h.src.pt.kind) (fun i _ hi hb => h.map.ne ((h.src.rc i hi).kind hb)), h.lst.upd hu (fun _ hb => h.map.ne (h.lst.kind hb))⟩
theorem src_put (h : SrcF w base sb pb mb lv lg s) (hu : Upd w w5 (fun b => b = mb)) (hmp : MapOk w5 mb (kpre (s.put p r) s.n)) (hp : p < s.n) (he : prodE s p r = 0) (hV : lg p = V) (f1 : OwnR w6 0 v' (s.log p ++ [r])) (f2 : v'.ownBlock = V.ownBlock ∨ ∀ b, v'.ownBlock = some b → w5.heap.size ≤ b)
    (b6 : Blk w6 pb ((flat (ptc lg s.off) s.n).set (p * 2) v') 89) (u6 : Upd w5 w6 (fun b => b = pb ∨ V.ownBlock = some b)) :
    SrcF w6 base sb pb mb lv (fun i => if i = p then v' else lg i) (s.put p r) ∧ Upd w w6 (fun b => b = pb ∨ b = mb ∨ (lg p).ownBlock = some b) ∧ Newer w p lg (fun i => if i = p then v' else lg i) := by
  subst hV
  obtain ⟨h5, l5⟩ := h.turned hu
  have hkt : ∀ b, (b = pb ∨ (lg p).ownBlock = some b) → b ≠ sb ∧ b ≠ mb ∧ lv.ownBlock ≠ some b := by
    intro b hx
    rcases hx with rfl | hx
    · exact ⟨kind_ne h5.pt.kind h5.hd.kind (by decide), hmp.ne h5.pt.kind, fun hl => kind_ne h5.pt.kind (l5.kind hl) (by decide) rfl⟩
    · have hk := (h5.rc p hp).kind hx
      exact ⟨kind_ne hk h5.hd.kind (by decide), hmp.ne hk, fun hl => kind_ne hk (l5.kind hl) (by decide) rfl⟩
  rw [ptc_set0 hp] at b6
  refine ⟨⟨⟨put_ok' h.src.ok he, h5.hd.upd u6 (fun hx => (hkt _ hx).1 rfl), b6, fun i hi => ?_⟩, l5.upd u6 (fun b hl hx => (hkt b hx).2.2 hl), hmp.upd u6 (fun hx => (hkt _ hx).2.1 rfl), put_64 hp h.k64 he, ?_, h.low, fun i b hi hx => ?_⟩, ?_, fun i => ?_⟩
  · by_cases hip : i = p
    · subst hip
      simp only [St.put, if_true]
      exact f1
    · simp only [St.put, if_neg hip]
      refine (h5.rc i hi).upd u6 (fun b hbi hx => ?_)
      rcases hx with rfl | hx
      · exact kind_ne ((h5.rc i hi).kind hbi) h5.pt.kind (by decide) rfl
      · exact h.sep i p b hi hp hip hbi hx
  · exact sep_put h.sep (fun i b hi hx => ((h5.rc i hi).lt b hx).2) f2 hp
  · by_cases hip : i = p
    · subst hip
      rw [if_pos rfl] at hx
      rcases f2 with h1 | h1
      · rw [h1] at hx; exact h.lowl i b hi hx
      · have := h1 b hx
        have := h.low.1
        have := h5.hd.lt
        omega
    · rw [if_neg hip] at hx
      exact h.lowl i b hi hx
  · exact (hu.wide (fun b hb => .inr (.inl hb))).trans u6 (fun b _ hb => hb.elim .inl (fun hb => .inr (.inr hb)))
  · by_cases hip : i = p
    · subst hip
      refine .inr ⟨rfl, ?_⟩
      dsimp only
      rw [if_pos rfl]
      rcases f2 with h1 | h1
      · exact .inl h1
      · exact .inr (fun b hx => Nat.le_trans hu.size (h1 b hx))
    · exact .inl (if_neg hip)

set_option maxRecDepth 100000 in
set_option maxHeartbeats 16000000 in
theorem sproduce_any (h : SrcF w base sb pb mb lv lg s) (hp : p < s.n) (hok : r.ok) :
    Calls Try.prog 37 #[.pointer (some ⟨sb, 0, none⟩), .int .i64 p, .agg #[.int .u64 r.key, .float .f64 r.val]] w fun e w' => ∃ lg', e = .returned (.int .i64 (prodE s p r)) ∧ SrcF w' base sb pb mb lv lg' (prodS s p r) ∧ Upd w w' (fun b => b = pb ∨ b = mb ∨ (lg p).ownBlock = some b) ∧ Newer w p lg lg' := by
  have HF := Lib.hid h
  have HOK := Lib.hid hok
  have C1 := Lib.hid (fun W (hW : Below w.heap.size w W) => find_in (h.src.keep hW) hp)
  have C2 := Lib.hid (fun W (hW : Below w.heap.size w W) => skey_less (h.lst.keep hW) hok)
  obtain ⟨a, cap, hv⟩ := (h.src.rc p hp).shape
  have hle := h.src.ok.le p hp
  have HLE := Lib.hid hle
  have z1 := h.src.h1
  have x0 := h.src.c0 hp
  have z0 := h.src.pt.lt
  have y1 := h.src.hd.lt
  have HMB : Hid (mb < w.heap.size) := Lib.hid (by
    obtain ⟨es, clock, hb⟩ := h.map.kind
    exact (Array.getElem?_eq_some_iff.1 hb).1)
  obtain ⟨m, hm⟩ : ∃ m, (s.log p).length = m := ⟨_, rfl⟩
  rw [hm] at hv hle
  rw [hv] at x0
  have HV := Lib.hid hv
  have HM := Lib.hid hm
  have same := Lib.hid (fun W (hW : Below w.heap.size w W) (he : prodE s p r ≠ 0) => show SrcF W base sb pb mb lv lg (prodS s p r) ∧ Upd w W (fun b => b = pb ∨ b = mb ∨ (lg p).ownBlock = some b) ∧ Newer w p lg lg from ⟨by unfold prodS; rw [if_neg he]; exact h.keep hW, .of_below hW, .refl _ _ _⟩)
  clear h hv hm
  by_cases hfull : 256 ≤ m
  · have HE : Hid (prodE s p r = 61) := Lib.hid (by unfold prodE; rw [if_pos (by rw [HM.out]; exact hfull)])
    have hf2 : (256 : Int) ≤ (m : Int) := by omega
    go_enter Try.func37, Try.ntmps37
    go_wp2_with fail
    refine (C1.out _ (by repeat' (first | with_reducible exact Below.refl _ _ | with_reducible assumption | with_reducible refine bel_drew ?_ | with_reducible refine bel_alloc ?_ _ | with_reducible refine bel_set ?_ ?_ _ | with_reducible refine bel_call ?_ (by assumption) | (dsimp only; omega) | (simp; done) | (simp; omega)))).mono ?_
    rintro e w' ⟨rfl, rfl⟩
    go_wp2_with fail
    go_ret
    obtain ⟨h1, h2, h3⟩ := same.out _ (bel_alloc1 _ _) (by rw [HE.out]; decide)
    exact ⟨lg, by rw [HE.out]; rfl, h1, h2, h3⟩
  · have hm2 : ¬ (256 : Int) ≤ (m : Int) := by omega
    have hm3 : m ≤ 255 := by omega
    clear hfull
    cases hkp : kp r with
    | false =>
      rw [hkp] at C2
      have HPE : Hid (prodE s p r = 0) := Lib.hid (by unfold prodE; rw [if_neg (by rw [HM.out]; omega), if_neg (by rw [hkp]; rintro ⟨h, _⟩; cases h)])
      have HSM : Hid ((kpre s s.n).length = (kpre (s.put p r) s.n).length ∧ ∀ x, x ∈ kpre (s.put p r) s.n ↔ x ∈ kpre s s.n) := Lib.hid ⟨by rw [put_len hp, hkp, if_neg (by rintro ⟨h, _⟩; cases h)], fun x => by rw [mem_put hp, hkp]; exact ⟨fun h => h.elim id (fun h => by cases h.1), .inl⟩⟩
      go_enter Try.func37, Try.ntmps37
      go_wp2_with fail
      refine (C1.out _ (by repeat' (first | with_reducible exact Below.refl _ _ | with_reducible assumption | with_reducible refine bel_drew ?_ | with_reducible refine bel_alloc ?_ _ | with_reducible refine bel_set ?_ ?_ _ | with_reducible refine bel_call ?_ (by assumption) | (dsimp only; omega) | (simp; done) | (simp; omega)))).mono ?_
      rintro e w' ⟨rfl, rfl⟩
      go_wp2_with fail
      refine wp_region_below (by kernel_rfl) (by kernel_rfl) ?_
      iterate 11 (first | (refine lex_skip (by rfl) (fun _ _ _ _ h => h) ?_; simp only [Act.put, List.setIfInBounds_toArray, List.set_cons_zero, List.set_cons_succ]) | (refine lex_op (by rfl) ?_; apply Exists.intro; refine ⟨?_, ?_⟩; ((intro _ _ _ _ hT; obtain ⟨hc, hf⟩ := bcell hT; go_simp; first | exact rfl | exact call_below hT (C2.out _ ((bel_alloc1 _ _).trans (hT.mono (by simp)))))); simp only [Act.put, List.setIfInBounds_toArray, List.set_cons_zero, List.set_cons_succ]))
      refine lex_nil ?_
      intro w5 bel5
      have p3 : Below w.heap.size w w5 := (bel_alloc1 _ _).trans (bel5.mono (by simp))
      have B3 : Blk w5 w.heap.size [.int .u64 r.key, .float .f64 r.val] 66 := Blk.below (Blk.new _ _ rfl) bel5
      clear bel5
      have HU5 : Hid (Upd w w5 (fun b => b = mb)) := Lib.hid (.of_below p3)
      have HMP : Hid (MapOk w5 mb (kpre (s.put p r) s.n)) := Lib.hid ((HF.out.map.keep p3).same HSM.out.1 HSM.out.2)
      have HB5 := Lib.hid B3
      clear p3 B3 z0 z1 x0 y1 C1 C2 same
      have HE : Hid (prodE s p r = 0) := HPE
      have HS' : Hid (prodS s p r = s.put p r) := Lib.hid (by unfold prodS; rw [if_pos HE.out])
      obtain ⟨ZS, hZS⟩ : ∃ ZS, flat (ptc lg s.off) s.n = ZS := ⟨_, rfl⟩
      obtain ⟨hs5, hl5⟩ := HF.out.turned HU5.out
      have hblk := hs5.pt
      have HAT : Hid (ZS[p * 2]? = some (.slice a m cap)) := Lib.hid (by rw [← hZS, ← HV.out]; exact flat_get (el := ptc lg s.off) (ptc_len lg s.off) (k := 0) (n := s.n) (by decide) hp)
      have HFZ : Hid (∀ v14 w6 (f1 : OwnR w6 0 v14 (s.log p ++ [r])) (f2 : v14.ownBlock = (Value.slice a m cap).ownBlock ∨ ∀ b, v14.ownBlock = some b → w5.heap.size ≤ b) (b6 : Blk w6 pb (ZS.set (p * 2) v14) 89) (u6 : Upd w5 w6 (fun b => b = pb ∨ (Value.slice a m cap).ownBlock = some b)), SrcF w6 base sb pb mb lv (fun i => if i = p then v14 else lg i) (s.put p r) ∧ Upd w w6 (fun b => b = pb ∨ b = mb ∨ (lg p).ownBlock = some b) ∧ Newer w p lg (fun i => if i = p then v14 else lg i)) := Lib.hid (fun v14 w6 f1 f2 b6 u6 => src_put HF.out HU5.out HMP.out hp HE.out HV.out f1 f2 (hZS ▸ b6) u6)
      rw [hZS] at hblk
      have HZ := Lib.hid hblk
      have HOL : Hid (OwnR w5 0 (.slice a m cap) (s.log p)) := Lib.hid (HV.out ▸ hs5.rc p hp)
      have n5 := hs5.pt.lt
      have HNB : Hid ((Value.slice a m cap).ownBlock ≠ some pb) := Lib.hid (fun h => kind_ne (HOL.out.kind h) hs5.pt.kind (by decide) rfl)
      have n1 : w.heap.size < w5.heap.size := HB5.out.lt
      have nx1 : ¬ (w.heap.size = pb ∨ (Value.slice a m cap).ownBlock = some w.heap.size) := by
        rintro (h | h)
        · have := HF.out.src.pt.lt; omega
        · have := ((HV.out ▸ HF.out.src.rc p hp : OwnR w 0 (.slice a m cap) (s.log p)).lt _ h).2; omega
      have y0 : w5.cell? ⟨w.heap.size, 0, none⟩ = some (.int .u64 r.key) := HB5.out.cell 0
      have y1 : w5.cell? ⟨w.heap.size, 1, none⟩ = some (.float .f64 r.val) := HB5.out.cell 1
      clear hs5 hl5 hblk hZS HF HB5 HU5 HMP
      go_wp2_with fail
      refine RV.wp_region_ghost (PrC w5 (.slice a m cap) (s.log p) r pb (p * 2) ZS 89 6 7 10) (by kernel_rfl) (by kernel_rfl) PrC.loc (.begin _ (by decide) (by decide) (by decide) HOL.out HZ.out) ?_
      refine RV.lexg_val (fun _ => by rfl) ?_; apply Exists.intro; refine ⟨?_, ?_⟩; ((intro g L w' hU hT; have hT' := hT.step (j := 0) (by decide); clear hT hU; go_simp; exact rfl)); simp only [Act.put, List.setIfInBounds_toArray, List.set_cons_zero, List.set_cons_succ]
      refine RV.lexg_val (fun _ => by rfl) ?_; apply Exists.intro; refine ⟨?_, ?_⟩; ((intro g L w' hU hT; have hT' := hT.step (j := 1) (by decide); clear hT hU; go_simp; exact rfl)); simp only [Act.put, List.setIfInBounds_toArray, List.set_cons_zero, List.set_cons_succ]
      refine RV.lexg_val (fun _ => by rfl) ?_; apply Exists.intro; refine ⟨?_, ?_⟩; ((intro g L w' hU hT; have hT' := hT.step (j := 2) (by decide); clear hT hU; go_simp; exact rfl)); simp only [Act.put, List.setIfInBounds_toArray, List.set_cons_zero, List.set_cons_succ]
      refine RV.lexg_val (fun _ => by rfl) ?_; apply Exists.intro; refine ⟨?_, ?_⟩; ((intro g L w' hU hT; have hT' := hT.step (j := 3) (by decide); clear hT hU; go_simp; exact rfl)); simp only [Act.put, List.setIfInBounds_toArray, List.set_cons_zero, List.set_cons_succ]
      refine RV.lexg_val (fun _ => by rfl) ?_; apply Exists.intro; refine ⟨?_, ?_⟩; ((intro g L w' hU hT; have hT' := hT.step (j := 4) (by decide); have h7 := hU.closed.no (j := 7) (i := 4) rfl (by kernel_rfl) hU.not; have h10 := hU.closed.no (j := 10) (i := 7) rfl (by kernel_rfl) h7; have hB := hT.blk; rw [h10, if_neg (by decide)] at hB; have e1 : w'.cell? ⟨pb, p * 2, none⟩ = some (.slice a m cap) := (hB.cell (p * 2)).trans HAT.out; clear hB h7 h10; clear hT hU; go_simp; exact rfl)); simp only [Act.put, List.setIfInBounds_toArray, List.set_cons_zero, List.set_cons_succ]
      refine RV.lexg_val (fun _ => by rfl) ?_; apply Exists.intro; refine ⟨?_, ?_⟩; ((intro g L w' hU hT; have hT' := hT.step (j := 5) (by decide); have e1 := (cell_upd hT.upd n1 nx1 0).trans y0; have e2 := (cell_upd hT.upd n1 nx1 1).trans y1; clear hT hU; go_simp; exact rfl)); simp only [Act.put, List.setIfInBounds_toArray, List.set_cons_zero, List.set_cons_succ]
      refine RV.lexg_new (fun _ => by rfl) ?_ ?_
      · intro g L w' hU hT
        have h7 := hU.closed.no (j := 7) (i := 6) rfl (by kernel_rfl) hU.not
        have h10 := hU.closed.no (j := 10) (i := 7) rfl (by kernel_rfl) h7
        refine lx_ok (u := .slice (some ⟨w'.heap.size, 0, none⟩) 1 1) (w' := w'.alloc (.cells #[.int .u64 r.key, .float .f64 r.val] 66)) ?_ (hT.build (by decide) h7 h10 HOK.out rfl)
        clear hT hU
        go_simp
      simp only [Act.put, List.setIfInBounds_toArray, List.set_cons_zero, List.set_cons_succ]
      refine RV.lexg_new (fun _ => by rfl) ?_ ?_
      · intro g L w' hU hT
        have h6 : L 6 = true := hU.yes rfl (by kernel_rfl)
        have h10 := hU.closed.no (j := 10) (i := 7) rfl (by kernel_rfl) hU.not
        obtain ⟨u, w'', h1, h2, h3, h4⟩ := run_append_recs (hT.own hU.not) (hT.bs h6 hU.not) (Nat.zero_le _) (by have := HLE.out; rw [List.length_singleton]; omega) 22 rfl
        exact lx_append rfl rfl rfl h1 (hT.append (by decide) hU.not h10 h2 h3 h4 HNB.out)
      simp only [Act.put, List.setIfInBounds_toArray, List.set_cons_zero, List.set_cons_succ]
      refine RV.lexg_val (fun _ => by rfl) ?_; apply Exists.intro; refine ⟨?_, ?_⟩; ((intro g L w' hU hT; have hT' := hT.step (j := 8) (by decide); clear hT hU; go_simp; exact rfl)); simp only [Act.put, List.setIfInBounds_toArray, List.set_cons_zero, List.set_cons_succ]
      refine RV.lexg_val (fun _ => by rfl) ?_; apply Exists.intro; refine ⟨?_, ?_⟩; ((intro g L w' hU hT; have hT' := hT.step (j := 9) (by decide); clear hT hU; go_simp; exact rfl)); simp only [Act.put, List.setIfInBounds_toArray, List.set_cons_zero, List.set_cons_succ]
      refine RV.lexg_op (fun _ => by rfl) ?_
      refine ⟨fun _ => undef, ?_, RV.known_const _ _, ?_⟩
      · intro g L w' hU hT
        have h7 : L 7 = true := hU.yes rfl (by kernel_rfl)
        have hf := hT.fin h7
        have hT' := hT.store (by decide) h7 hU.not (fun b hb => kind_ne (hf.1.kind hb) hT.blk.kind (by decide))
        have hB := hT.blk
        rw [hU.not, if_neg (by decide)] at hB
        have f0 := hB.free (p * 2)
        have c0 : w'.cell? ⟨pb, p * 2, none⟩ = some (.slice a m cap) := (hB.cell (p * 2)).trans HAT.out
        obtain ⟨a', cap', hsh⟩ := hf.1.shape
        generalize (s.log p ++ [r]).length = k14 at hsh
        rw [hsh] at hT'
        clear hT hU hf hB h7
        go_simp
      simp only [Act.put]
      refine RV.lexg_nil ?_
      intro g w6 hT
      obtain ⟨f1, f2⟩ := hT.fin rfl
      have u6 := hT.upd
      have b6 := hT.blk
      rw [if_pos rfl] at b6
      clear hT
      dsimp only
      generalize g 7 = v14 at *
      have HFIN := Lib.hid (HFZ.out _ _ f1 f2 b6 u6)
      clear f1 f2 u6 b6
      go_wp2_with fail
      go_ret
      obtain ⟨h1, h2, h3⟩ := HFIN.out
      exact ⟨_, by rw [HE.out]; rfl, by rw [HS'.out]; exact h1, h2, h3⟩
    | true =>
      rw [hkp] at C2
      have HKP := Lib.hid hkp
      have hky := Lib.hid (ky_ok HOK.out)
      have hk64 := HF.out.k64
      have HKN : Hid (ky r ∉ kpre s s.n → 64 ≤ (kpre s s.n).length → prodE s p r = 62) := Lib.hid (fun h1 h2 => by unfold prodE; rw [if_neg (by rw [HM.out]; omega), if_pos ⟨hkp, h1, h2⟩])
      have HKY : Hid (ky r ∈ kpre s s.n ∨ (kpre s s.n).length < 64 → prodE s p r = 0) := Lib.hid (fun h => by
        unfold prodE
        rw [if_neg (by rw [HM.out]; omega), if_neg]
        rintro ⟨_, h1, h2⟩
        rcases h with h | h
        · exact h1 h
        · omega)
      clear hkp
      obtain ⟨K, hK⟩ : ∃ K, kpre s s.n = K := ⟨_, rfl⟩
      obtain ⟨kk, hkk⟩ : ∃ kk, ky r = kk := ⟨_, rfl⟩
      obtain ⟨KL, hKL⟩ : ∃ KL, K.length = KL := ⟨_, rfl⟩
      rw [hK, hkk] at HKN HKY
      rw [hkk] at C2 hky
      rw [hK] at hk64
      rw [hKL] at hk64 HKN HKY
      have HKL := Lib.hid hKL
      have HK := Lib.hid hK
      have HKK := Lib.hid hkk
      by_cases hin : kk ∈ K
      · have HPE := Lib.hid (HKY.out (.inl hin))
        have HIN := Lib.hid hin
        go_enter Try.func37, Try.ntmps37
        go_wp2_with fail
        refine (C1.out _ (by repeat' (first | with_reducible exact Below.refl _ _ | with_reducible assumption | with_reducible refine bel_drew ?_ | with_reducible refine bel_alloc ?_ _ | with_reducible refine bel_set ?_ ?_ _ | with_reducible refine bel_call ?_ (by assumption) | (dsimp only; omega) | (simp; done) | (simp; omega)))).mono ?_
        rintro e w' ⟨rfl, rfl⟩
        go_wp2_with fail
        refine wp_region_below (by kernel_rfl) (by kernel_rfl) ?_
        iterate 11 (first | (refine lex_skip (by rfl) (fun _ _ _ _ h => h) ?_; simp only [Act.put, List.setIfInBounds_toArray, List.set_cons_zero, List.set_cons_succ]) | (refine lex_op (by rfl) ?_; apply Exists.intro; refine ⟨?_, ?_⟩; ((intro _ _ _ _ hT; obtain ⟨hc, hf⟩ := bcell hT; go_simp; first | exact rfl | exact call_below hT (C2.out _ ((bel_alloc1 _ _).trans (hT.mono (by simp)))))); simp only [Act.put, List.setIfInBounds_toArray, List.set_cons_zero, List.set_cons_succ]))
        refine lex_nil ?_
        intro w3 bel5
        have p3 : Below w.heap.size w w3 := (bel_alloc1 _ _).trans (bel5.mono (by simp))
        have B3 : Blk w3 w.heap.size [.int .u64 r.key, .float .f64 r.val] 66 := Blk.below (Blk.new _ _ rfl) bel5
        clear bel5
        have hsrc3 := HF.out.src.keep p3
        obtain ⟨D, hD, hsz, hhas⟩ := HF.out.map.keep p3
        rw [hK] at hD hsz hhas
        have hD' := hD
        rw [hKL] at hD'
        have HD := Lib.hid hD'
        have hh := hhas kk hky.out
        rw [decide_eq_true hin] at hh
        have HT : Hid (Tidy D) := Lib.hid (hD.tidy lawU)
        have HHAS := Lib.hid hhas
        have HSZ := Lib.hid hsz
        have hkey : keyOf Try.prog 63 (.int .u64 kk) = some (.int .u64 kk) := keyOf_int_mk Try.underlying63 (wf_u64 hky.out)
        have q2 : w3.cell? ⟨sb, 2, none⟩ = some (.map (some mb)) := hsrc3.h2
        have q0 := hsrc3.hd.lt
        have qm := hD.lt
        clear hsrc3 hD hhas hD' hsz z0 z1 x0
        clear hin C1 C2 hK hkk hKL HKN HKY same
        go_wp2_with (first | (at_lookup; refine wpList_lookup_own_unit _ rfl _ _ 82 rfl 63 100 lawU Try.underlying82 (zeroUnit _) mb KL D rfl HD.out _ _ rfl hkey ?_) | (at_mapUpdate; refine wpList_mapUpdate_own _ rfl _ _ _ 82 rfl 63 100 lawU Try.underlying82 (unitElem (H := Unit)) mb KL D rfl (HD.out.alloc _) (by unfold maxLen; omega) _ _ _ rfl rfl hkey _ [] unitElem_mk ?_; intro w5 own5 grow5))
        have HU5 : Hid (Upd w w5 (fun b => b = mb)) := Lib.hid (((Upd.of_below p3).trans (.of_below (X := fun b => b = mb) (bel_alloc1 _ _)) (fun _ _ h => h)).trans (.of_grown (X := fun b => b = mb) grow5 (fun b hb => by cases hb; rfl)) (fun _ _ h => h))
        have HB5 : Hid (Blk w5 w.heap.size [.int .u64 r.key, .float .f64 r.val] 66) := Lib.hid ((B3.below (bel_alloc1 _ _)).grown grow5 (fun h => by cases h; have := HF.out.src.hd.lt; have := HMB.out; omega))
        have HMP : Hid (MapOk w5 mb (kpre (s.put p r) s.n)) := Lib.hid (map_put hky.out own5 HT.out HSZ.out HHAS.out (by rw [put_len hp, HKK.out, HK.out, HKP.out]; rw [if_neg (by rintro ⟨_, h⟩; exact h HIN.out), if_pos HIN.out]) (fun x => by rw [mem_put hp, HKK.out, HK.out, HKP.out]; exact ⟨fun h => h.elim .inl (fun h => .inr h.2), fun h => h.elim .inl (fun h => .inr ⟨rfl, h⟩)⟩))
        clear own5 grow5 HD HT HHAS HSZ p3 B3 q0 q2 qm hh hkey
        have HE : Hid (prodE s p r = 0) := HPE
        have HS' : Hid (prodS s p r = s.put p r) := Lib.hid (by unfold prodS; rw [if_pos HE.out])
        obtain ⟨ZS, hZS⟩ : ∃ ZS, flat (ptc lg s.off) s.n = ZS := ⟨_, rfl⟩
        obtain ⟨hs5, hl5⟩ := HF.out.turned HU5.out
        have hblk := hs5.pt
        have HAT : Hid (ZS[p * 2]? = some (.slice a m cap)) := Lib.hid (by rw [← hZS, ← HV.out]; exact flat_get (el := ptc lg s.off) (ptc_len lg s.off) (k := 0) (n := s.n) (by decide) hp)
        have HFZ : Hid (∀ v14 w6 (f1 : OwnR w6 0 v14 (s.log p ++ [r])) (f2 : v14.ownBlock = (Value.slice a m cap).ownBlock ∨ ∀ b, v14.ownBlock = some b → w5.heap.size ≤ b) (b6 : Blk w6 pb (ZS.set (p * 2) v14) 89) (u6 : Upd w5 w6 (fun b => b = pb ∨ (Value.slice a m cap).ownBlock = some b)), SrcF w6 base sb pb mb lv (fun i => if i = p then v14 else lg i) (s.put p r) ∧ Upd w w6 (fun b => b = pb ∨ b = mb ∨ (lg p).ownBlock = some b) ∧ Newer w p lg (fun i => if i = p then v14 else lg i)) := Lib.hid (fun v14 w6 f1 f2 b6 u6 => src_put HF.out HU5.out HMP.out hp HE.out HV.out f1 f2 (hZS ▸ b6) u6)
        rw [hZS] at hblk
        have HZ := Lib.hid hblk
        have HOL : Hid (OwnR w5 0 (.slice a m cap) (s.log p)) := Lib.hid (HV.out ▸ hs5.rc p hp)
        have n5 := hs5.pt.lt
        have HNB : Hid ((Value.slice a m cap).ownBlock ≠ some pb) := Lib.hid (fun h => kind_ne (HOL.out.kind h) hs5.pt.kind (by decide) rfl)
        have n1 : w.heap.size < w5.heap.size := HB5.out.lt
        have nx1 : ¬ (w.heap.size = pb ∨ (Value.slice a m cap).ownBlock = some w.heap.size) := by
          rintro (h | h)
          · have := HF.out.src.pt.lt; omega
          · have := ((HV.out ▸ HF.out.src.rc p hp : OwnR w 0 (.slice a m cap) (s.log p)).lt _ h).2; omega
        have y0 : w5.cell? ⟨w.heap.size, 0, none⟩ = some (.int .u64 r.key) := HB5.out.cell 0
        have y1 : w5.cell? ⟨w.heap.size, 1, none⟩ = some (.float .f64 r.val) := HB5.out.cell 1
        clear hs5 hl5 hblk hZS HF HB5 HU5 HMP
        refine RV.wp_region_ghost (PrC w5 (.slice a m cap) (s.log p) r pb (p * 2) ZS 89 6 7 10) (by kernel_rfl) (by kernel_rfl) PrC.loc (.begin _ (by decide) (by decide) (by decide) HOL.out HZ.out) ?_
        refine RV.lexg_val (fun _ => by rfl) ?_; apply Exists.intro; refine ⟨?_, ?_⟩; ((intro g L w' hU hT; have hT' := hT.step (j := 0) (by decide); clear hT hU; go_simp; exact rfl)); simp only [Act.put, List.setIfInBounds_toArray, List.set_cons_zero, List.set_cons_succ]
        refine RV.lexg_val (fun _ => by rfl) ?_; apply Exists.intro; refine ⟨?_, ?_⟩; ((intro g L w' hU hT; have hT' := hT.step (j := 1) (by decide); clear hT hU; go_simp; exact rfl)); simp only [Act.put, List.setIfInBounds_toArray, List.set_cons_zero, List.set_cons_succ]
        refine RV.lexg_val (fun _ => by rfl) ?_; apply Exists.intro; refine ⟨?_, ?_⟩; ((intro g L w' hU hT; have hT' := hT.step (j := 2) (by decide); clear hT hU; go_simp; exact rfl)); simp only [Act.put, List.setIfInBounds_toArray, List.set_cons_zero, List.set_cons_succ]
        refine RV.lexg_val (fun _ => by rfl) ?_; apply Exists.intro; refine ⟨?_, ?_⟩; ((intro g L w' hU hT; have hT' := hT.step (j := 3) (by decide); clear hT hU; go_simp; exact rfl)); simp only [Act.put, List.setIfInBounds_toArray, List.set_cons_zero, List.set_cons_succ]
        refine RV.lexg_val (fun _ => by rfl) ?_; apply Exists.intro; refine ⟨?_, ?_⟩; ((intro g L w' hU hT; have hT' := hT.step (j := 4) (by decide); have h7 := hU.closed.no (j := 7) (i := 4) rfl (by kernel_rfl) hU.not; have h10 := hU.closed.no (j := 10) (i := 7) rfl (by kernel_rfl) h7; have hB := hT.blk; rw [h10, if_neg (by decide)] at hB; have e1 : w'.cell? ⟨pb, p * 2, none⟩ = some (.slice a m cap) := (hB.cell (p * 2)).trans HAT.out; clear hB h7 h10; clear hT hU; go_simp; exact rfl)); simp only [Act.put, List.setIfInBounds_toArray, List.set_cons_zero, List.set_cons_succ]
        refine RV.lexg_val (fun _ => by rfl) ?_; apply Exists.intro; refine ⟨?_, ?_⟩; ((intro g L w' hU hT; have hT' := hT.step (j := 5) (by decide); have e1 := (cell_upd hT.upd n1 nx1 0).trans y0; have e2 := (cell_upd hT.upd n1 nx1 1).trans y1; clear hT hU; go_simp; exact rfl)); simp only [Act.put, List.setIfInBounds_toArray, List.set_cons_zero, List.set_cons_succ]
        refine RV.lexg_new (fun _ => by rfl) ?_ ?_
        · intro g L w' hU hT
          have h7 := hU.closed.no (j := 7) (i := 6) rfl (by kernel_rfl) hU.not
          have h10 := hU.closed.no (j := 10) (i := 7) rfl (by kernel_rfl) h7
          refine lx_ok (u := .slice (some ⟨w'.heap.size, 0, none⟩) 1 1) (w' := w'.alloc (.cells #[.int .u64 r.key, .float .f64 r.val] 66)) ?_ (hT.build (by decide) h7 h10 HOK.out rfl)
          clear hT hU
          go_simp
        simp only [Act.put, List.setIfInBounds_toArray, List.set_cons_zero, List.set_cons_succ]
        refine RV.lexg_new (fun _ => by rfl) ?_ ?_
        · intro g L w' hU hT
          have h6 : L 6 = true := hU.yes rfl (by kernel_rfl)
          have h10 := hU.closed.no (j := 10) (i := 7) rfl (by kernel_rfl) hU.not
          obtain ⟨u, w'', h1, h2, h3, h4⟩ := run_append_recs (hT.own hU.not) (hT.bs h6 hU.not) (Nat.zero_le _) (by have := HLE.out; rw [List.length_singleton]; omega) 22 rfl
          exact lx_append rfl rfl rfl h1 (hT.append (by decide) hU.not h10 h2 h3 h4 HNB.out)
        simp only [Act.put, List.setIfInBounds_toArray, List.set_cons_zero, List.set_cons_succ]
        refine RV.lexg_val (fun _ => by rfl) ?_; apply Exists.intro; refine ⟨?_, ?_⟩; ((intro g L w' hU hT; have hT' := hT.step (j := 8) (by decide); clear hT hU; go_simp; exact rfl)); simp only [Act.put, List.setIfInBounds_toArray, List.set_cons_zero, List.set_cons_succ]
        refine RV.lexg_val (fun _ => by rfl) ?_; apply Exists.intro; refine ⟨?_, ?_⟩; ((intro g L w' hU hT; have hT' := hT.step (j := 9) (by decide); clear hT hU; go_simp; exact rfl)); simp only [Act.put, List.setIfInBounds_toArray, List.set_cons_zero, List.set_cons_succ]
        refine RV.lexg_op (fun _ => by rfl) ?_
        refine ⟨fun _ => undef, ?_, RV.known_const _ _, ?_⟩
        · intro g L w' hU hT
          have h7 : L 7 = true := hU.yes rfl (by kernel_rfl)
          have hf := hT.fin h7
          have hT' := hT.store (by decide) h7 hU.not (fun b hb => kind_ne (hf.1.kind hb) hT.blk.kind (by decide))
          have hB := hT.blk
          rw [hU.not, if_neg (by decide)] at hB
          have f0 := hB.free (p * 2)
          have c0 : w'.cell? ⟨pb, p * 2, none⟩ = some (.slice a m cap) := (hB.cell (p * 2)).trans HAT.out
          obtain ⟨a', cap', hsh⟩ := hf.1.shape
          generalize (s.log p ++ [r]).length = k14 at hsh
          rw [hsh] at hT'
          clear hT hU hf hB h7
          go_simp
        simp only [Act.put]
        refine RV.lexg_nil ?_
        intro g w6 hT
        obtain ⟨f1, f2⟩ := hT.fin rfl
        have u6 := hT.upd
        have b6 := hT.blk
        rw [if_pos rfl] at b6
        clear hT
        dsimp only
        generalize g 7 = v14 at *
        have HFIN := Lib.hid (HFZ.out _ _ f1 f2 b6 u6)
        clear f1 f2 u6 b6
        go_wp2_with fail
        go_ret
        obtain ⟨h1, h2, h3⟩ := HFIN.out
        exact ⟨_, by rw [HE.out]; rfl, by rw [HS'.out]; exact h1, h2, h3⟩
      · by_cases h64 : 64 ≤ KL
        · have HE := Lib.hid (HKN.out hin h64)
          have hz64 : (64 : Int) ≤ (KL : Int) := by omega
          go_enter Try.func37, Try.ntmps37
          go_wp2_with fail
          refine (C1.out _ (by repeat' (first | with_reducible exact Below.refl _ _ | with_reducible assumption | with_reducible refine bel_drew ?_ | with_reducible refine bel_alloc ?_ _ | with_reducible refine bel_set ?_ ?_ _ | with_reducible refine bel_call ?_ (by assumption) | (dsimp only; omega) | (simp; done) | (simp; omega)))).mono ?_
          rintro e w' ⟨rfl, rfl⟩
          go_wp2_with fail
          refine wp_region_below (by kernel_rfl) (by kernel_rfl) ?_
          iterate 11 (first | (refine lex_skip (by rfl) (fun _ _ _ _ h => h) ?_; simp only [Act.put, List.setIfInBounds_toArray, List.set_cons_zero, List.set_cons_succ]) | (refine lex_op (by rfl) ?_; apply Exists.intro; refine ⟨?_, ?_⟩; ((intro _ _ _ _ hT; obtain ⟨hc, hf⟩ := bcell hT; go_simp; first | exact rfl | exact call_below hT (C2.out _ ((bel_alloc1 _ _).trans (hT.mono (by simp)))))); simp only [Act.put, List.setIfInBounds_toArray, List.set_cons_zero, List.set_cons_succ]))
          refine lex_nil ?_
          intro w3 bel5
          have p3 : Below w.heap.size w w3 := (bel_alloc1 _ _).trans (bel5.mono (by simp))
          have B3 : Blk w3 w.heap.size [.int .u64 r.key, .float .f64 r.val] 66 := Blk.below (Blk.new _ _ rfl) bel5
          clear bel5
          have hsrc3 := HF.out.src.keep p3
          obtain ⟨D, hD, hsz, hhas⟩ := HF.out.map.keep p3
          rw [hK] at hD hsz hhas
          have hD' := hD
          rw [hKL] at hD'
          have HD := Lib.hid hD'
          have hh := hhas kk hky.out
          rw [decide_eq_false hin] at hh
          have HT : Hid (Tidy D) := Lib.hid (hD.tidy lawU)
          have HHAS := Lib.hid hhas
          have HSZ := Lib.hid hsz
          have hkey : keyOf Try.prog 63 (.int .u64 kk) = some (.int .u64 kk) := keyOf_int_mk Try.underlying63 (wf_u64 hky.out)
          have q2 : w3.cell? ⟨sb, 2, none⟩ = some (.map (some mb)) := hsrc3.h2
          have q0 := hsrc3.hd.lt
          have qm := hD.lt
          clear hsrc3 hD hhas hD' hsz z0 z1 x0
          have HP3 := Lib.hid p3
          rw [hKL] at HSZ
          clear hin C1 C2 hK hkk hKL HKN HKY p3 B3
          go_wp2_with (at_lookup; refine wpList_lookup_own_unit _ rfl _ _ 82 rfl 63 100 lawU Try.underlying82 (zeroUnit _) mb KL D rfl HD.out _ _ rfl hkey ?_)
          rw [(HD.out.alloc _).len Try.underlying82 _, HSZ.out]
          go_wp2_with fail
          go_ret
          obtain ⟨h1, h2, h3⟩ := same.out _ (HP3.out.trans ((bel_alloc1 _ _).mono HP3.out.size)) (by rw [HE.out]; decide)
          exact ⟨lg, by rw [HE.out]; rfl, h1, h2, h3⟩
        · have HPE := Lib.hid (HKY.out (.inr (by omega)))
          have hz64 : ¬ (64 : Int) ≤ (KL : Int) := by omega
          have HIN := Lib.hid hin
          go_enter Try.func37, Try.ntmps37
          go_wp2_with fail
          refine (C1.out _ (by repeat' (first | with_reducible exact Below.refl _ _ | with_reducible assumption | with_reducible refine bel_drew ?_ | with_reducible refine bel_alloc ?_ _ | with_reducible refine bel_set ?_ ?_ _ | with_reducible refine bel_call ?_ (by assumption) | (dsimp only; omega) | (simp; done) | (simp; omega)))).mono ?_
          rintro e w' ⟨rfl, rfl⟩
          go_wp2_with fail
          refine wp_region_below (by kernel_rfl) (by kernel_rfl) ?_
          iterate 11 (first | (refine lex_skip (by rfl) (fun _ _ _ _ h => h) ?_; simp only [Act.put, List.setIfInBounds_toArray, List.set_cons_zero, List.set_cons_succ]) | (refine lex_op (by rfl) ?_; apply Exists.intro; refine ⟨?_, ?_⟩; ((intro _ _ _ _ hT; obtain ⟨hc, hf⟩ := bcell hT; go_simp; first | exact rfl | exact call_below hT (C2.out _ ((bel_alloc1 _ _).trans (hT.mono (by simp)))))); simp only [Act.put, List.setIfInBounds_toArray, List.set_cons_zero, List.set_cons_succ]))
          refine lex_nil ?_
          intro w3 bel5
          have p3 : Below w.heap.size w w3 := (bel_alloc1 _ _).trans (bel5.mono (by simp))
          have B3 : Blk w3 w.heap.size [.int .u64 r.key, .float .f64 r.val] 66 := Blk.below (Blk.new _ _ rfl) bel5
          clear bel5
          have hsrc3 := HF.out.src.keep p3
          obtain ⟨D, hD, hsz, hhas⟩ := HF.out.map.keep p3
          rw [hK] at hD hsz hhas
          have hD' := hD
          rw [hKL] at hD'
          have HD := Lib.hid hD'
          have hh := hhas kk hky.out
          rw [decide_eq_false hin] at hh
          have HT : Hid (Tidy D) := Lib.hid (hD.tidy lawU)
          have HHAS := Lib.hid hhas
          have HSZ := Lib.hid hsz
          have hkey : keyOf Try.prog 63 (.int .u64 kk) = some (.int .u64 kk) := keyOf_int_mk Try.underlying63 (wf_u64 hky.out)
          have q2 : w3.cell? ⟨sb, 2, none⟩ = some (.map (some mb)) := hsrc3.h2
          have q0 := hsrc3.hd.lt
          have qm := hD.lt
          clear hsrc3 hD hhas hD' hsz z0 z1 x0
          clear hin C1 C2 hK hkk HKN HKY same
          have HSZ2 := HSZ
          rw [hKL] at HSZ2
          clear hKL
          go_wp2_with (at_lookup; refine wpList_lookup_own_unit _ rfl _ _ 82 rfl 63 100 lawU Try.underlying82 (zeroUnit _) mb KL D rfl HD.out _ _ rfl hkey ?_)
          rw [(HD.out.alloc _).len Try.underlying82 _, HSZ2.out]
          go_wp2_with (at_mapUpdate; refine wpList_mapUpdate_own _ rfl _ _ _ 82 rfl 63 100 lawU Try.underlying82 (unitElem (H := Unit)) mb KL D rfl (HD.out.alloc _) (by unfold maxLen; omega) _ _ _ rfl rfl hkey _ [] unitElem_mk ?_; intro w5 own5 grow5)
          have HU5 : Hid (Upd w w5 (fun b => b = mb)) := Lib.hid (((Upd.of_below p3).trans (.of_below (X := fun b => b = mb) (bel_alloc1 _ _)) (fun _ _ h => h)).trans (.of_grown (X := fun b => b = mb) grow5 (fun b hb => by cases hb; rfl)) (fun _ _ h => h))
          have HB5 : Hid (Blk w5 w.heap.size [.int .u64 r.key, .float .f64 r.val] 66) := Lib.hid ((B3.below (bel_alloc1 _ _)).grown grow5 (fun h => by cases h; have := HF.out.src.hd.lt; have := HMB.out; omega))
          have HMP : Hid (MapOk w5 mb (kpre (s.put p r) s.n)) := Lib.hid (map_put hky.out own5 HT.out HSZ.out HHAS.out (by rw [put_len hp, HKK.out, HK.out, HKP.out]; rw [if_pos ⟨rfl, HIN.out⟩, if_neg HIN.out]) (fun x => by rw [mem_put hp, HKK.out, HK.out, HKP.out]; exact ⟨fun h => h.elim .inl (fun h => .inr h.2), fun h => h.elim .inl (fun h => .inr ⟨rfl, h⟩)⟩))
          clear own5 grow5 HD HT HHAS HSZ p3 B3 q0 q2 qm hh hkey
          have HE : Hid (prodE s p r = 0) := HPE
          have HS' : Hid (prodS s p r = s.put p r) := Lib.hid (by unfold prodS; rw [if_pos HE.out])
          obtain ⟨ZS, hZS⟩ : ∃ ZS, flat (ptc lg s.off) s.n = ZS := ⟨_, rfl⟩
          obtain ⟨hs5, hl5⟩ := HF.out.turned HU5.out
          have hblk := hs5.pt
          have HAT : Hid (ZS[p * 2]? = some (.slice a m cap)) := Lib.hid (by rw [← hZS, ← HV.out]; exact flat_get (el := ptc lg s.off) (ptc_len lg s.off) (k := 0) (n := s.n) (by decide) hp)
          have HFZ : Hid (∀ v14 w6 (f1 : OwnR w6 0 v14 (s.log p ++ [r])) (f2 : v14.ownBlock = (Value.slice a m cap).ownBlock ∨ ∀ b, v14.ownBlock = some b → w5.heap.size ≤ b) (b6 : Blk w6 pb (ZS.set (p * 2) v14) 89) (u6 : Upd w5 w6 (fun b => b = pb ∨ (Value.slice a m cap).ownBlock = some b)), SrcF w6 base sb pb mb lv (fun i => if i = p then v14 else lg i) (s.put p r) ∧ Upd w w6 (fun b => b = pb ∨ b = mb ∨ (lg p).ownBlock = some b) ∧ Newer w p lg (fun i => if i = p then v14 else lg i)) := Lib.hid (fun v14 w6 f1 f2 b6 u6 => src_put HF.out HU5.out HMP.out hp HE.out HV.out f1 f2 (hZS ▸ b6) u6)
          rw [hZS] at hblk
          have HZ := Lib.hid hblk
          have HOL : Hid (OwnR w5 0 (.slice a m cap) (s.log p)) := Lib.hid (HV.out ▸ hs5.rc p hp)
          have n5 := hs5.pt.lt
          have HNB : Hid ((Value.slice a m cap).ownBlock ≠ some pb) := Lib.hid (fun h => kind_ne (HOL.out.kind h) hs5.pt.kind (by decide) rfl)
          have n1 : w.heap.size < w5.heap.size := HB5.out.lt
          have nx1 : ¬ (w.heap.size = pb ∨ (Value.slice a m cap).ownBlock = some w.heap.size) := by
            rintro (h | h)
            · have := HF.out.src.pt.lt; omega
            · have := ((HV.out ▸ HF.out.src.rc p hp : OwnR w 0 (.slice a m cap) (s.log p)).lt _ h).2; omega
          have y0 : w5.cell? ⟨w.heap.size, 0, none⟩ = some (.int .u64 r.key) := HB5.out.cell 0
          have y1 : w5.cell? ⟨w.heap.size, 1, none⟩ = some (.float .f64 r.val) := HB5.out.cell 1
          clear hs5 hl5 hblk hZS HF HB5 HU5 HMP
          refine RV.wp_region_ghost (PrC w5 (.slice a m cap) (s.log p) r pb (p * 2) ZS 89 6 7 10) (by kernel_rfl) (by kernel_rfl) PrC.loc (.begin _ (by decide) (by decide) (by decide) HOL.out HZ.out) ?_
          refine RV.lexg_val (fun _ => by rfl) ?_; apply Exists.intro; refine ⟨?_, ?_⟩; ((intro g L w' hU hT; have hT' := hT.step (j := 0) (by decide); clear hT hU; go_simp; exact rfl)); simp only [Act.put, List.setIfInBounds_toArray, List.set_cons_zero, List.set_cons_succ]
          refine RV.lexg_val (fun _ => by rfl) ?_; apply Exists.intro; refine ⟨?_, ?_⟩; ((intro g L w' hU hT; have hT' := hT.step (j := 1) (by decide); clear hT hU; go_simp; exact rfl)); simp only [Act.put, List.setIfInBounds_toArray, List.set_cons_zero, List.set_cons_succ]
          refine RV.lexg_val (fun _ => by rfl) ?_; apply Exists.intro; refine ⟨?_, ?_⟩; ((intro g L w' hU hT; have hT' := hT.step (j := 2) (by decide); clear hT hU; go_simp; exact rfl)); simp only [Act.put, List.setIfInBounds_toArray, List.set_cons_zero, List.set_cons_succ]
          refine RV.lexg_val (fun _ => by rfl) ?_; apply Exists.intro; refine ⟨?_, ?_⟩; ((intro g L w' hU hT; have hT' := hT.step (j := 3) (by decide); clear hT hU; go_simp; exact rfl)); simp only [Act.put, List.setIfInBounds_toArray, List.set_cons_zero, List.set_cons_succ]
          refine RV.lexg_val (fun _ => by rfl) ?_; apply Exists.intro; refine ⟨?_, ?_⟩; ((intro g L w' hU hT; have hT' := hT.step (j := 4) (by decide); have h7 := hU.closed.no (j := 7) (i := 4) rfl (by kernel_rfl) hU.not; have h10 := hU.closed.no (j := 10) (i := 7) rfl (by kernel_rfl) h7; have hB := hT.blk; rw [h10, if_neg (by decide)] at hB; have e1 : w'.cell? ⟨pb, p * 2, none⟩ = some (.slice a m cap) := (hB.cell (p * 2)).trans HAT.out; clear hB h7 h10; clear hT hU; go_simp; exact rfl)); simp only [Act.put, List.setIfInBounds_toArray, List.set_cons_zero, List.set_cons_succ]
          refine RV.lexg_val (fun _ => by rfl) ?_; apply Exists.intro; refine ⟨?_, ?_⟩; ((intro g L w' hU hT; have hT' := hT.step (j := 5) (by decide); have e1 := (cell_upd hT.upd n1 nx1 0).trans y0; have e2 := (cell_upd hT.upd n1 nx1 1).trans y1; clear hT hU; go_simp; exact rfl)); simp only [Act.put, List.setIfInBounds_toArray, List.set_cons_zero, List.set_cons_succ]
          refine RV.lexg_new (fun _ => by rfl) ?_ ?_
          · intro g L w' hU hT
            have h7 := hU.closed.no (j := 7) (i := 6) rfl (by kernel_rfl) hU.not
            have h10 := hU.closed.no (j := 10) (i := 7) rfl (by kernel_rfl) h7
            refine lx_ok (u := .slice (some ⟨w'.heap.size, 0, none⟩) 1 1) (w' := w'.alloc (.cells #[.int .u64 r.key, .float .f64 r.val] 66)) ?_ (hT.build (by decide) h7 h10 HOK.out rfl)
            clear hT hU
            go_simp
          simp only [Act.put, List.setIfInBounds_toArray, List.set_cons_zero, List.set_cons_succ]
          refine RV.lexg_new (fun _ => by rfl) ?_ ?_
          · intro g L w' hU hT
            have h6 : L 6 = true := hU.yes rfl (by kernel_rfl)
            have h10 := hU.closed.no (j := 10) (i := 7) rfl (by kernel_rfl) hU.not
            obtain ⟨u, w'', h1, h2, h3, h4⟩ := run_append_recs (hT.own hU.not) (hT.bs h6 hU.not) (Nat.zero_le _) (by have := HLE.out; rw [List.length_singleton]; omega) 22 rfl
            exact lx_append rfl rfl rfl h1 (hT.append (by decide) hU.not h10 h2 h3 h4 HNB.out)
          simp only [Act.put, List.setIfInBounds_toArray, List.set_cons_zero, List.set_cons_succ]
          refine RV.lexg_val (fun _ => by rfl) ?_; apply Exists.intro; refine ⟨?_, ?_⟩; ((intro g L w' hU hT; have hT' := hT.step (j := 8) (by decide); clear hT hU; go_simp; exact rfl)); simp only [Act.put, List.setIfInBounds_toArray, List.set_cons_zero, List.set_cons_succ]
          refine RV.lexg_val (fun _ => by rfl) ?_; apply Exists.intro; refine ⟨?_, ?_⟩; ((intro g L w' hU hT; have hT' := hT.step (j := 9) (by decide); clear hT hU; go_simp; exact rfl)); simp only [Act.put, List.setIfInBounds_toArray, List.set_cons_zero, List.set_cons_succ]
          refine RV.lexg_op (fun _ => by rfl) ?_
          refine ⟨fun _ => undef, ?_, RV.known_const _ _, ?_⟩
          · intro g L w' hU hT
            have h7 : L 7 = true := hU.yes rfl (by kernel_rfl)
            have hf := hT.fin h7
            have hT' := hT.store (by decide) h7 hU.not (fun b hb => kind_ne (hf.1.kind hb) hT.blk.kind (by decide))
            have hB := hT.blk
            rw [hU.not, if_neg (by decide)] at hB
            have f0 := hB.free (p * 2)
            have c0 : w'.cell? ⟨pb, p * 2, none⟩ = some (.slice a m cap) := (hB.cell (p * 2)).trans HAT.out
            obtain ⟨a', cap', hsh⟩ := hf.1.shape
            generalize (s.log p ++ [r]).length = k14 at hsh
            rw [hsh] at hT'
            clear hT hU hf hB h7
            go_simp
          simp only [Act.put]
          refine RV.lexg_nil ?_
          intro g w6 hT
          obtain ⟨f1, f2⟩ := hT.fin rfl
          have u6 := hT.upd
          have b6 := hT.blk
          rw [if_pos rfl] at b6
          clear hT
          dsimp only
          generalize g 7 = v14 at *
          have HFIN := Lib.hid (HFZ.out _ _ f1 f2 b6 u6)
          clear f1 f2 u6 b6
          go_wp2_with fail
          go_ret
          obtain ⟨h1, h2, h3⟩ := HFIN.out
          exact ⟨_, by rw [HE.out]; rfl, by rw [HS'.out]; exact h1, h2, h3⟩
end
end Go.Proofs.Ytbckfoldjlgabaa
namespace Go.Proofs.Ytbckfoldjlgabaa
open Go.RowKit Go.Maps
open Fl (nan key canon)
theorem lx_make {P : Program} {T : Value → World → Prop} {ev : Operand → Value} {o : Oper} {l c : Operand} {t : TypeId} {vl vc u : Value} {w' w'' : World} (ho : o.op = .makeSlice t l c) (hl : ev l = vl) (hc : ev c = vc)
    (hr : (Instr.makeSlice t vl vc).run P w' = .ok u w'') (hT : T u w'') : RV.LeavesX P T ((execOp ev o).run P w') := by
  refine lx_ok (u := u) (w' := w'') ?_ hT
  unfold execOp
  simp only [ho, Sem.run_bind, Sem.run_pure, Result.andThen_ok, hl, hc, hr]
/-- the worlds of a region that only makes things: F tells of operation i's value -/
structure NwC (W : World) (F : Nat → Value → World → Prop) (g : Nat → Value) (L : Nat → Bool) (w' : World) : Prop where
  bel : Below W.heap.size W w'
  at_ : ∀ i, L i = true → F i (g i) w'
section
variable {W w' w'' : World} {F : Nat → Value → World → Prop} {g : Nat → Value} {L : Nat → Bool}
theorem NwC.loc (g g' : Nat → Value) (L : Nat → Bool) (w' : World) (he : ∀ i, L i = true → g i = g' i) (h : NwC W F g L w') : NwC W F g' L w' := ⟨h.bel, fun i hi => by rw [← he i hi]; exact h.at_ i hi⟩
theorem NwC.begin (n : Nat) (hF : ∀ i u w, n ≤ i → F i u w) : NwC W F g (fun j => decide (n ≤ j)) W.drew := ⟨(Below.refl _ _).drew, fun i hi => hF i _ _ (of_decide_eq_true hi)⟩
theorem NwC.upd (h : NwC W F g L w') {i : Nat} (hF : ∀ u w, F i u w) : NwC W F g (upd L i) w' := ⟨h.bel, fun j hj => by
  by_cases hji : j = i
  · subst hji; exact hF _ _
  · rw [upd_other L hji] at hj; exact h.at_ j hj⟩
theorem NwC.new (h : NwC W F g L w') {i : Nat} {u : Value} (hb : Below w'.heap.size w' w'') (hk : ∀ i u w w', Below w.heap.size w w' → F i u w → F i u w') (hF : F i u w'') : NwC W F (RV.gset g i u) (Go.Proofs.Ytbckfoldjlgabaa.upd L i) w'' := ⟨bel_call h.bel hb, fun j hj => by
  by_cases hji : j = i
  · subst hji; rw [RV.gset_same]; exact hF
  · rw [upd_other L hji] at hj; rw [RV.gset_other _ _ hji]; exact hk _ _ _ _ hb (h.at_ j hj)⟩
end
/-- a source whose partitions are empty and on -/
def St.empty (n : Nat) : St := ⟨n, fun _ => [], fun _ => false⟩
theorem kpre_empty (n : Nat) : ∀ p, kpre (St.empty n) p = []
  | 0 => rfl
  | p + 1 => by show kin (kpre (St.empty n) p) [] = []; rw [kpre_empty n p]; rfl
theorem empty_ok {n : Nat} (h1 : 1 ≤ n) (h4 : n ≤ 4) : (St.empty n).ok := ⟨h1, h4, fun _ _ => Nat.zero_le _⟩
def nils : Nat → Value := fun _ => .slice none 0 0
theorem made_pt : ∀ n, 1 ≤ n → n ≤ 4 → (madeCells (Value.agg #[.slice none 0 0, .bool false]).cells (n * 2)).toList = flat (ptc nils (fun _ => false)) n
  | 1, _, _ => by simp only [madeCells, Array.toList_map, Array.toList_range]; rfl
  | 2, _, _ => by simp only [madeCells, Array.toList_map, Array.toList_range]; rfl
  | 3, _, _ => by simp only [madeCells, Array.toList_map, Array.toList_range]; rfl
  | 4, _, _ => by simp only [madeCells, Array.toList_map, Array.toList_range]; rfl
theorem made_lg : ∀ n, 1 ≤ n → n ≤ 4 → (madeCells (Value.slice none 0 0).cells (n * 1)).toList = flat (lgc nils) n
  | 1, _, _ => by simp only [madeCells, Array.toList_map, Array.toList_range]; rfl
  | 2, _, _ => by simp only [madeCells, Array.toList_map, Array.toList_range]; rfl
  | 3, _, _ => by simp only [madeCells, Array.toList_map, Array.toList_range]; rfl
  | 4, _, _ => by simp only [madeCells, Array.toList_map, Array.toList_range]; rfl
theorem made_of : ∀ n, 1 ≤ n → n ≤ 4 → (madeCells (Value.bool false).cells (n * 1)).toList = flat (ofc (fun _ => false)) n
  | 1, _, _ => by simp only [madeCells, Array.toList_map, Array.toList_range]; rfl
  | 2, _, _ => by simp only [madeCells, Array.toList_map, Array.toList_range]; rfl
  | 3, _, _ => by simp only [madeCells, Array.toList_map, Array.toList_range]; rfl
  | 4, _, _ => by simp only [madeCells, Array.toList_map, Array.toList_range]; rfl
theorem infoPt : (Try.prog.info? 89).map (fun i => (i.zero, i.size, i.bytes)) = some (some (.agg #[.slice none 0 0, .bool false]), 2, 32) := by kernel_rfl
theorem infoLg : (Try.prog.info? 22).map (fun i => (i.zero, i.size, i.bytes)) = some (some (.slice none 0 0), 1, 24) := by kernel_rfl
theorem infoB : (Try.prog.info? 4).map (fun i => (i.zero, i.size, i.bytes)) = some (some (.bool false), 1, 1) := by kernel_rfl
theorem MapOk.made (w : World) : MapOk (w.alloc (.map #[] 0)) w.heap.size [] := ⟨.map [], World.ownsMap_made w _ _ _, rfl, fun _ _ => rfl⟩
/-- what the operations of New make -/
def NwS (N n : Nat) (i : Nat) (u : Value) (w : World) : Prop :=
  if i = 1 then ∃ pb, u = .slice (some ⟨pb, 0, none⟩) n n ∧ N ≤ pb ∧ Blk w pb (flat (ptc nils (fun _ => false)) n) 89 else
  if i = 3 then Lst w u else
  if i = 4 then ∃ mb, u = .map (some mb) ∧ N ≤ mb ∧ MapOk w mb [] else
  if i = 5 then ∃ pb lv mb, u = .agg #[.slice (some ⟨pb, 0, none⟩) n n, lv, .map (some mb)] ∧ lv.oneCell' = true ∧ N ≤ pb ∧ Blk w pb (flat (ptc nils (fun _ => false)) n) 89 ∧ Lst w lv ∧ N ≤ mb ∧ MapOk w mb [] else
  if i = 6 then ∃ sb pb mb lv, u = .pointer (some ⟨sb, 0, none⟩) ∧ SrcF w N sb pb mb lv nils (St.empty n) else True
theorem NwS.keep (N n : Nat) (i : Nat) (u : Value) (w w' : World) (hb : Below w.heap.size w w') (h : NwS N n i u w) : NwS N n i u w' := by
  unfold NwS at *
  split
  · rename_i h0
    rw [if_pos h0] at h
    obtain ⟨pb, h1, h2, h3⟩ := h
    exact ⟨pb, h1, h2, h3.below hb⟩
  · rename_i h0
    rw [if_neg h0] at h
    split
    · rename_i h0; rw [if_pos h0] at h; exact h.keep hb
    · rename_i h0
      rw [if_neg h0] at h
      split
      · rename_i h0
        rw [if_pos h0] at h
        obtain ⟨mb, h1, h2, h3⟩ := h
        exact ⟨mb, h1, h2, h3.keep hb⟩
      · rename_i h0
        rw [if_neg h0] at h
        split
        · rename_i h0
          rw [if_pos h0] at h
          obtain ⟨pb, lv, mb, h1, h2, h3, h4, h5, h6, h7⟩ := h
          exact ⟨pb, lv, mb, h1, h2, h3, h4.below hb, h5.keep hb, h6, h7.keep hb⟩
        · rename_i h0
          rw [if_neg h0] at h
          split
          · rename_i h0
            rw [if_pos h0] at h
            obtain ⟨sb, pb, mb, lv, h1, h2⟩ := h
            exact ⟨sb, pb, mb, lv, h1, h2.keep hb⟩
          · trivial
theorem src_empty {w : World} {N n pb mb : Nat} {lv : Value} (h1 : 1 ≤ n) (h4 : n ≤ 4) (hN : N ≤ w.heap.size) (hp : N ≤ pb) (hB : Blk w pb (flat (ptc nils (fun _ => false)) n) 89) (hl : Lst w lv) (hm : N ≤ mb) (hM : MapOk w mb []) :
    SrcF (w.alloc (.cells #[.slice (some ⟨pb, 0, none⟩) n n, lv, .map (some mb)] 84)) N w.heap.size pb mb lv nils (St.empty n) := by
  have hb : Below w.heap.size w (w.alloc (.cells #[.slice (some ⟨pb, 0, none⟩) n n, lv, .map (some mb)] 84)) := bel_alloc1 _ _
  refine ⟨⟨empty_ok h1 h4, Blk.new _ _ rfl, hB.below hb, fun i _ => OwnR.nil _ _⟩, hl.keep hb, ?_, ?_, ?_, ⟨hN, hp, hm⟩, ?_⟩
  · rw [kpre_empty]; exact hM.keep hb
  · rw [kpre_empty]; exact Nat.zero_le _
  · intro i j b _ _ _ h; cases h
  · intro i b _ h; cases h
set_option maxRecDepth 100000 in
set_option maxHeartbeats 8000000 in
theorem snew_any {z : Int} {b : Nat} {w : World} (h : Stps w b 0 1 (fun _ => less)) (hz : 1 ≤ z) (hz4 : z ≤ 4) :
    Calls Try.prog 35 #[.int .i64 z, .slice (some ⟨b, 0, none⟩) 1 1] w fun e w' => ∃ sb pb mb lv, e = .returned (.tuple #[.pointer (some ⟨sb, 0, none⟩), .int .i64 0]) ∧ SrcF w' w.heap.size sb pb mb lv nils (St.empty z.toNat) ∧ Below w.heap.size w w' := by
  obtain ⟨n, hn⟩ : ∃ n : Nat, z = n := ⟨z.toNat, by omega⟩
  subst hn
  have hn1 : 1 ≤ n := by omega
  have hn4 : n ≤ 4 := by omega
  rw [Int.toNat_natCast]
  have C1 := Lib.hid (fun W (hW : Below w.heap.size w W) => check_any (some ⟨b, 0, none⟩) 1 1 b 0 (fun _ => less) W (by omega) (fun _ => rfl) (fun _ => h.keep hW h.lt hW.size))
  have C2 := Lib.hid (fun W (hW : Below w.heap.size w W) => clone_one b (fun _ => less) W (h.keep hW h.lt hW.size))
  have e0 : chk (fun _ => less) 1 = 0 := rfl
  rw [e0] at C1
  have hmm := @run_makeMap Try.prog
  have z1 : ¬ ((n : Int) < 1) := by omega
  have z2 : ¬ ((4 : Int) < (n : Int)) := by omega
  clear e0 h
  go_enter Try.func35, Try.ntmps35
  go_wp2_with fail
  refine (C1.out _ (by repeat' (first | with_reducible exact Below.refl _ _ | with_reducible assumption | with_reducible refine bel_drew ?_ | with_reducible refine bel_alloc ?_ _ | with_reducible refine bel_set ?_ ?_ _ | with_reducible refine bel_call ?_ (by assumption) | (dsimp only; omega) | (simp; done) | (simp; omega)))).mono ?_
  rintro e w5 ⟨rfl, p5⟩
  clear C1
  go_wp2_with fail
  have hN := p5.size
  refine RV.wp_region_ghost (NwC w5 (NwS w.heap.size n)) (by kernel_rfl) (by kernel_rfl) NwC.loc (.begin _ (fun i u w' hi => ?_)) ?_
  · unfold NwS
    have hi : 9 ≤ i := hi
    rw [if_neg (by omega), if_neg (by omega), if_neg (by omega), if_neg (by omega), if_neg (by omega)]
    trivial
  refine RV.lexg_val (fun _ => by rfl) ?_; apply Exists.intro; refine ⟨?_, ?_⟩; ((intro g L w' hU hT; have hT' := hT.upd (i := 0) (fun _ _ => trivial); clear hT hU; go_simp; exact rfl)); simp only [Act.put, List.setIfInBounds_toArray, List.set_cons_zero, List.set_cons_succ]
  refine RV.lexg_new (fun _ => by rfl) ?_ ?_
  · intro g L w' hU hT
    obtain ⟨i0, hi, hz0, hz1, hz2⟩ := info_parts infoPt
    obtain ⟨w'', h1, h2, h3⟩ := run_make_full (P := Try.prog) w' w'.heap.size 81 89 i0 _ 2 Try.underlying81 hi hz0 hz1 .i64 .i64 n (by rw [hz2]; omega) (by unfold maxLen; omega) (Nat.le_refl _)
    have hB := ownsRow_full h2
    rw [made_pt n hn1 hn4] at hB
    exact lx_make rfl rfl rfl h1 (hT.new ((Below.refl _ _).grown h3 (Nat.le_refl _) (fun _ h => by cases h)) (NwS.keep _ _) ⟨w'.heap.size, rfl, Nat.le_trans hN hT.bel.size, hB⟩)
  simp only [Act.put, List.setIfInBounds_toArray, List.set_cons_zero, List.set_cons_succ]
  refine RV.lexg_val (fun _ => by rfl) ?_; apply Exists.intro; refine ⟨?_, ?_⟩; ((intro g L w' hU hT; have hT' := hT.upd (i := 2) (fun _ _ => trivial); clear hT hU; go_simp; exact rfl)); simp only [Act.put, List.setIfInBounds_toArray, List.set_cons_zero, List.set_cons_succ]
  refine RV.lexg_new (fun _ => by rfl) ?_ ?_
  · intro g L w' hU hT
    refine lx_call (f := 51) (args := #[.slice (some ⟨b, 0, none⟩) 1 1]) (w' := w') (by go_simp) ((C2.out _ (p5.trans (hT.bel.mono p5.size))).mono ?_)
    rintro e w'' ⟨u, rfl, hv, hb⟩
    exact ⟨u, rfl, hT.new hb (NwS.keep _ _) ⟨ownsRow_base hv (Nat.zero_le _)⟩⟩
  simp only [Act.put, List.setIfInBounds_toArray, List.set_cons_zero, List.set_cons_succ]
  refine RV.lexg_new (fun _ => by rfl) ?_ ?_
  · intro g L w' hU hT
    refine lx_ok (u := .map (some w'.heap.size)) (w' := w'.alloc (.map #[] 0)) ?_ (hT.new (bel_alloc1 _ _) (NwS.keep _ _) ⟨w'.heap.size, rfl, Nat.le_trans hN hT.bel.size, MapOk.made _⟩)
    clear hT hU
    go_simp
  simp only [Act.put, List.setIfInBounds_toArray, List.set_cons_zero, List.set_cons_succ]
  refine RV.lexg_new (fun _ => by rfl) ?_ ?_
  · intro g L w' hU hT
    have h1 : L 1 = true := hU.yes rfl (by kernel_rfl)
    have h3 : L 3 = true := hU.yes rfl (by kernel_rfl)
    have h4 : L 4 = true := hU.yes rfl (by kernel_rfl)
    obtain ⟨pb, e1, a1, b1⟩ := hT.at_ 1 h1
    have l3 : Lst w' (g 3) := hT.at_ 3 h3
    obtain ⟨mb, e4, a4, b4⟩ := hT.at_ 4 h4
    obtain ⟨lb, lc, e3, _⟩ := l3.out
    refine lx_ok (u := .agg #[.slice (some ⟨pb, 0, none⟩) n n, .slice (some ⟨lb, 0, none⟩) 1 lc, .map (some mb)]) (w' := w') ?_ (hT.new (Below.refl _ _) (NwS.keep _ _) ⟨pb, .slice (some ⟨lb, 0, none⟩) 1 lc, mb, rfl, rfl, a1, b1, e3 ▸ l3, a4, b4⟩)
    clear hT hU b1 l3 b4
    go_simp
  simp only [Act.put, List.setIfInBounds_toArray, List.set_cons_zero, List.set_cons_succ]
  refine RV.lexg_new (fun _ => by rfl) ?_ ?_
  · intro g L w' hU hT
    have h5 : L 5 = true := hU.yes rfl (by kernel_rfl)
    obtain ⟨pb, lv, mb, e5, ho, a1, b1, l3, a4, b4⟩ := hT.at_ 5 h5
    obtain ⟨lb, lc, rfl, _⟩ := l3.out
    refine lx_ok (u := .pointer (some ⟨w'.heap.size, 0, none⟩)) (w' := w'.alloc (.cells #[.slice (some ⟨pb, 0, none⟩) n n, .slice (some ⟨lb, 0, none⟩) 1 lc, .map (some mb)] 84)) ?_ (hT.new (bel_alloc1 _ _) (NwS.keep _ _) ⟨w'.heap.size, pb, mb, _, rfl, src_empty hn1 hn4 (Nat.le_trans hN hT.bel.size) a1 b1 l3 a4 b4⟩)
    clear hT hU b1 l3 b4
    go_simp
  simp only [Act.put, List.setIfInBounds_toArray, List.set_cons_zero, List.set_cons_succ]
  refine RV.lexg_op (fun _ => by rfl) ?_
  refine ⟨fun g => g 6, ?_, known_get (by rfl) (by kernel_rfl), ?_⟩
  · intro g L w' hU hT
    have hT' := hT.upd (i := 7) (fun _ _ => trivial)
    clear hT hU
    go_simp
  simp only [Act.put, List.setIfInBounds_toArray, List.set_cons_zero, List.set_cons_succ]
  refine RV.lexg_val (fun _ => by rfl) ?_; apply Exists.intro; refine ⟨?_, ?_⟩; ((intro g L w' hU hT; have hT' := hT.upd (i := 8) (fun _ _ => trivial); clear hT hU; go_simp; exact rfl)); simp only [Act.put, List.setIfInBounds_toArray, List.set_cons_zero, List.set_cons_succ]
  refine RV.lexg_nil ?_
  intro g w6 hT
  obtain ⟨sb, pb, mb, lv, e6, hS⟩ := hT.at_ 6 rfl
  have p6 := p5.trans (hT.bel.mono p5.size)
  clear hT
  dsimp only
  rw [e6]
  have HS := Lib.hid hS
  clear hS
  go_wp2_with fail
  go_ret2
  exact ⟨sb, pb, mb, lv, rfl, HS.out, p6⟩
set_option maxRecDepth 100000 in
theorem snew_none {z : Int} {v : Value} {w : World} (hz : z < 1 ∨ 4 < z) :
    Calls Try.prog 35 #[.int .i64 z, v] w fun e w' => e = .returned (.tuple #[.pointer none, .int .i64 1]) ∧ w = w' := by
  by_cases z1 : z < 1
  · go_enter Try.func35, Try.ntmps35
    go_wp2_with fail
    go_ret2
    exact ⟨rfl, rfl⟩
  · have z2 : 4 < z := by omega
    go_enter Try.func35, Try.ntmps35
    go_wp2_with fail
    go_ret2
    exact ⟨rfl, rfl⟩
end Go.Proofs.Ytbckfoldjlgabaa
namespace Go.Proofs.Ytbckfoldjlgabaa
open Go.RowKit Go.Maps
open Fl (nan key canon)
/-- what the operations of the document's New make -/
def NwT (N n : Nat) (lv : Value) (i : Nat) (u : Value) (w : World) : Prop :=
  if i = 1 then ∃ gb, u = .slice (some ⟨gb, 0, none⟩) n n ∧ N ≤ gb ∧ Blk w gb (flat (lgc nils) n) 22 else
  if i = 3 then ∃ ob, u = .slice (some ⟨ob, 0, none⟩) n n ∧ N ≤ ob ∧ Blk w ob (flat (ofc (fun _ => false)) n) 4 else
  if i = 5 then ∃ gb ob, u = .agg #[.slice (some ⟨gb, 0, none⟩) n n, .slice (some ⟨ob, 0, none⟩) n n, lv] ∧ N ≤ gb ∧ Blk w gb (flat (lgc nils) n) 22 ∧ N ≤ ob ∧ Blk w ob (flat (ofc (fun _ => false)) n) 4 else
  if i = 6 then ∃ tb gb ob, u = .pointer (some ⟨tb, 0, none⟩) ∧ RSrcF w N tb gb ob lv nils (St.empty n) else True
theorem NwT.keep (N n : Nat) (lv : Value) (i : Nat) (u : Value) (w w' : World) (hb : Below w.heap.size w w') (h : NwT N n lv i u w) : NwT N n lv i u w' := by
  unfold NwT at *
  split
  · rename_i h0
    rw [if_pos h0] at h
    obtain ⟨pb, h1, h2, h3⟩ := h
    exact ⟨pb, h1, h2, h3.below hb⟩
  · rename_i h0
    rw [if_neg h0] at h
    split
    · rename_i h0
      rw [if_pos h0] at h
      obtain ⟨pb, h1, h2, h3⟩ := h
      exact ⟨pb, h1, h2, h3.below hb⟩
    · rename_i h0
      rw [if_neg h0] at h
      split
      · rename_i h0
        rw [if_pos h0] at h
        obtain ⟨gb, ob, h1, h2, h3, h4, h5⟩ := h
        exact ⟨gb, ob, h1, h2, h3.below hb, h4, h5.below hb⟩
      · rename_i h0
        rw [if_neg h0] at h
        split
        · rename_i h0
          rw [if_pos h0] at h
          obtain ⟨sb, pb, mb, h1, h2⟩ := h
          exact ⟨sb, pb, mb, h1, h2.keep hb⟩
        · trivial
theorem rsrc_empty {w : World} {N n gb ob : Nat} {lv : Value} (h1 : 1 ≤ n) (h4 : n ≤ 4) (hN : N ≤ w.heap.size) (hp : N ≤ gb) (hB : Blk w gb (flat (lgc nils) n) 22) (hl : Lst w lv) (hm : N ≤ ob) (hM : Blk w ob (flat (ofc (fun _ => false)) n) 4) :
    RSrcF (w.alloc (.cells #[.slice (some ⟨gb, 0, none⟩) n n, .slice (some ⟨ob, 0, none⟩) n n, lv] 97)) N w.heap.size gb ob lv nils (St.empty n) := by
  have hb : Below w.heap.size w (w.alloc (.cells #[.slice (some ⟨gb, 0, none⟩) n n, .slice (some ⟨ob, 0, none⟩) n n, lv] 97)) := bel_alloc1 _ _
  refine ⟨⟨empty_ok h1 h4, Blk.new _ _ rfl, hB.below hb, hM.below hb, fun i _ => OwnR.nil _ _⟩, hl.keep hb, ?_, ?_, ⟨hN, hp, hm⟩, ?_⟩
  · rw [kpre_empty]; exact Nat.zero_le _
  · intro i j b _ _ _ h; cases h
  · intro i b _ h; cases h
set_option maxRecDepth 100000 in
set_option maxHeartbeats 8000000 in
theorem rnew_any {z : Int} {b : Nat} {w : World} (h : Stps w b 0 1 (fun _ => less)) (hz : 1 ≤ z) (hz4 : z ≤ 4) :
    Calls Try.prog 36 #[.int .i64 z, .slice (some ⟨b, 0, none⟩) 1 1] w fun e w' => ∃ tb gb ob lv, e = .returned (.tuple #[.pointer (some ⟨tb, 0, none⟩), .int .i64 0]) ∧ RSrcF w' w.heap.size tb gb ob lv nils (St.empty z.toNat) ∧ Below w.heap.size w w' := by
  obtain ⟨n, hn⟩ : ∃ n : Nat, z = n := ⟨z.toNat, by omega⟩
  subst hn
  have hn1 : 1 ≤ n := by omega
  have hn4 : n ≤ 4 := by omega
  rw [Int.toNat_natCast]
  have C1 := Lib.hid (fun W (hW : Below w.heap.size w W) => rcheck_any (some ⟨b, 0, none⟩) 1 1 b 0 (fun _ => less) W (by omega) (fun _ => rfl) (fun _ => h.keep hW h.lt hW.size))
  have HST := Lib.hid h
  have e0 : chk (fun _ => less) 1 = 0 := rfl
  rw [e0] at C1
  have z1 : ¬ ((n : Int) < 1) := by omega
  have z2 : ¬ ((4 : Int) < (n : Int)) := by omega
  obtain ⟨i0, hi, hz0, hz1, hz2⟩ := info_parts infoStp
  clear e0 h
  go_enter Try.func36, Try.ntmps36
  go_wp2_with fail
  refine (C1.out _ (by repeat' (first | with_reducible exact Below.refl _ _ | with_reducible assumption | with_reducible refine bel_drew ?_ | with_reducible refine bel_alloc ?_ _ | with_reducible refine bel_set ?_ ?_ _ | with_reducible refine bel_call ?_ (by assumption) | (dsimp only; omega) | (simp; done) | (simp; omega)))).mono ?_
  rintro e w3 ⟨rfl, p3⟩
  clear C1
  have L : Hid (0 < 1 → Lies (w3.alloc (.cells #[] 73)) b 0 3 (stc (fun _ => less)) 1) := Lib.hid (fun _ => ((HST.out.keep p3 HST.out.lt p3.size).lies'.alloc _))
  go_wp2_with (at_builtin; refine wpList_append_any _ rfl (.tmp 17) (.tmp 18) 74 rfl w3.heap.size 73 i0 _ 3 24 Try.underlying74 hi hz0 hz1 hz2 rfl (by decide) _ 0 (stc (fun _ => less)) rfl (owns_none w3 _ _ _) _ 1 1 b 0 rfl (stc (fun _ => less)) (stc_len _) (stc_one _) (fun _ => rfl) L.out (by unfold maxLen; omega) (by omega) (by simp) ?_; intro lv w5 own5 grow5 hat)
  rw [both_none, Nat.zero_add] at own5
  have p5 : Below w.heap.size w w5 := p3.trans ((((Below.refl _ _).alloc (Nat.le_refl _) _).grown grow5 (by simp) (fun k h => by cases h; exact Nat.le_refl _) : Below w3.heap.size w3 w5).mono p3.size)
  obtain ⟨lb, lc, rfl⟩ := some_row own5 (by decide)
  have HL : Hid (Lst w5 (.slice (some ⟨lb, 0, none⟩) 1 lc)) := Lib.hid ⟨ownsRow_base own5 (Nat.zero_le _)⟩
  have hN := p5.size
  clear own5 grow5 hat L p3 HST hi hz0 hz1 hz2
  refine RV.wp_region_ghost (NwC w5 (NwT w.heap.size n (.slice (some ⟨lb, 0, none⟩) 1 lc))) (by kernel_rfl) (by kernel_rfl) NwC.loc (.begin _ (fun i u w' hi => ?_)) ?_
  · unfold NwT
    have hi : 9 ≤ i := hi
    rw [if_neg (by omega), if_neg (by omega), if_neg (by omega), if_neg (by omega)]
    trivial
  refine RV.lexg_val (fun _ => by rfl) ?_; apply Exists.intro; refine ⟨?_, ?_⟩; ((intro g L w' hU hT; have hT' := hT.upd (i := 0) (fun _ _ => trivial); clear hT hU; go_simp; exact rfl)); simp only [Act.put, List.setIfInBounds_toArray, List.set_cons_zero, List.set_cons_succ]
  refine RV.lexg_new (fun _ => by rfl) ?_ ?_
  · intro g L w' hU hT
    obtain ⟨i0, hi, hz0, hz1, hz2⟩ := info_parts infoLg
    obtain ⟨w'', h1, h2, h3⟩ := run_make_full (P := Try.prog) w' w'.heap.size 94 22 i0 _ 1 Try.underlying94 hi hz0 hz1 .i64 .i64 n (by rw [hz2]; omega) (by unfold maxLen; omega) (Nat.le_refl _)
    have hB := ownsRow_full h2
    rw [made_lg n hn1 hn4] at hB
    exact lx_make rfl rfl rfl h1 (hT.new ((Below.refl _ _).grown h3 (Nat.le_refl _) (fun _ h => by cases h)) (NwT.keep _ _ _) ⟨w'.heap.size, rfl, Nat.le_trans hN hT.bel.size, hB⟩)
  simp only [Act.put, List.setIfInBounds_toArray, List.set_cons_zero, List.set_cons_succ]
  refine RV.lexg_val (fun _ => by rfl) ?_; apply Exists.intro; refine ⟨?_, ?_⟩; ((intro g L w' hU hT; have hT' := hT.upd (i := 2) (fun _ _ => trivial); clear hT hU; go_simp; exact rfl)); simp only [Act.put, List.setIfInBounds_toArray, List.set_cons_zero, List.set_cons_succ]
  refine RV.lexg_new (fun _ => by rfl) ?_ ?_
  · intro g L w' hU hT
    obtain ⟨i0, hi, hz0, hz1, hz2⟩ := info_parts infoB
    obtain ⟨w'', h1, h2, h3⟩ := run_make_full (P := Try.prog) w' w'.heap.size 95 4 i0 _ 1 Try.underlying95 hi hz0 hz1 .i64 .i64 n (by rw [hz2]; omega) (by unfold maxLen; omega) (Nat.le_refl _)
    have hB := ownsRow_full h2
    rw [made_of n hn1 hn4] at hB
    exact lx_make rfl rfl rfl h1 (hT.new ((Below.refl _ _).grown h3 (Nat.le_refl _) (fun _ h => by cases h)) (NwT.keep _ _ _) ⟨w'.heap.size, rfl, Nat.le_trans hN hT.bel.size, hB⟩)
  simp only [Act.put, List.setIfInBounds_toArray, List.set_cons_zero, List.set_cons_succ]
  refine RV.lexg_val (fun _ => by rfl) ?_; apply Exists.intro; refine ⟨?_, ?_⟩; ((intro g L w' hU hT; have hT' := hT.upd (i := 4) (fun _ _ => trivial); clear hT hU; go_simp; exact rfl)); simp only [Act.put, List.setIfInBounds_toArray, List.set_cons_zero, List.set_cons_succ]
  refine RV.lexg_new (fun _ => by rfl) ?_ ?_
  · intro g L w' hU hT
    have h1 : L 1 = true := hU.yes rfl (by kernel_rfl)
    have h3 : L 3 = true := hU.yes rfl (by kernel_rfl)
    obtain ⟨gb, e1, a1, b1⟩ := hT.at_ 1 h1
    obtain ⟨ob, e3, a3, b3⟩ := hT.at_ 3 h3
    refine lx_ok (u := .agg #[.slice (some ⟨gb, 0, none⟩) n n, .slice (some ⟨ob, 0, none⟩) n n, .slice (some ⟨lb, 0, none⟩) 1 lc]) (w' := w') ?_ (hT.new (Below.refl _ _) (NwT.keep _ _ _) ⟨gb, ob, rfl, a1, b1, a3, b3⟩)
    clear hT hU b1 b3
    go_simp
  simp only [Act.put, List.setIfInBounds_toArray, List.set_cons_zero, List.set_cons_succ]
  refine RV.lexg_new (fun _ => by rfl) ?_ ?_
  · intro g L w' hU hT
    have h5 : L 5 = true := hU.yes rfl (by kernel_rfl)
    obtain ⟨gb, ob, e5, a1, b1, a3, b3⟩ := hT.at_ 5 h5
    refine lx_ok (u := .pointer (some ⟨w'.heap.size, 0, none⟩)) (w' := w'.alloc (.cells #[.slice (some ⟨gb, 0, none⟩) n n, .slice (some ⟨ob, 0, none⟩) n n, .slice (some ⟨lb, 0, none⟩) 1 lc] 97)) ?_ (hT.new (bel_alloc1 _ _) (NwT.keep _ _ _) ⟨w'.heap.size, gb, ob, rfl, rsrc_empty hn1 hn4 (Nat.le_trans hN hT.bel.size) a1 b1 (HL.out.keep hT.bel) a3 b3⟩)
    clear hT hU b1 b3
    go_simp
  simp only [Act.put, List.setIfInBounds_toArray, List.set_cons_zero, List.set_cons_succ]
  refine RV.lexg_op (fun _ => by rfl) ?_
  refine ⟨fun g => g 6, ?_, known_get (by rfl) (by kernel_rfl), ?_⟩
  · intro g L w' hU hT
    have hT' := hT.upd (i := 7) (fun _ _ => trivial)
    clear hT hU
    go_simp
  simp only [Act.put, List.setIfInBounds_toArray, List.set_cons_zero, List.set_cons_succ]
  refine RV.lexg_val (fun _ => by rfl) ?_; apply Exists.intro; refine ⟨?_, ?_⟩; ((intro g L w' hU hT; have hT' := hT.upd (i := 8) (fun _ _ => trivial); clear hT hU; go_simp; exact rfl)); simp only [Act.put, List.setIfInBounds_toArray, List.set_cons_zero, List.set_cons_succ]
  refine RV.lexg_nil ?_
  intro g w6 hT
  obtain ⟨tb, gb, ob, e6, hS⟩ := hT.at_ 6 rfl
  have p6 := p5.trans (hT.bel.mono p5.size)
  clear hT
  dsimp only
  rw [e6]
  have HS := Lib.hid hS
  clear hS
  go_wp2_with fail
  go_ret2
  exact ⟨tb, gb, ob, _, rfl, HS.out, p6⟩
set_option maxRecDepth 100000 in
theorem rnew_none {z : Int} {v : Value} {w : World} (hz : z < 1 ∨ 4 < z) :
    Calls Try.prog 36 #[.int .i64 z, v] w fun e w' => e = .returned (.tuple #[.pointer none, .int .i64 1]) ∧ w = w' := by
  by_cases z1 : z < 1
  · go_enter Try.func36, Try.ntmps36
    go_wp2_with fail
    go_ret2
    exact ⟨rfl, rfl⟩
  · have z2 : 4 < z := by omega
    go_enter Try.func36, Try.ntmps36
    go_wp2_with fail
    go_ret2
    exact ⟨rfl, rfl⟩
/-- a partition on or off -/
def St.sw (s : St) (p : Int) (on : Bool) : St := if 0 ≤ p ∧ p < s.n then ⟨s.n, s.log, fun i => if i = p.toNat then !on else s.off i⟩ else s
theorem kpre_sw (s : St) (p : Int) (on : Bool) : ∀ q, kpre (s.sw p on) q = kpre s q
  | 0 => rfl
  | q + 1 => by
    show kin (kpre (s.sw p on) q) ((s.sw p on).log q) = kin (kpre s q) (s.log q)
    rw [kpre_sw s p on q, show (s.sw p on).log = s.log by unfold St.sw; split <;> rfl]
theorem sw_out {s : St} {p : Int} (on : Bool) (h : p < 0 ∨ (s.n : Int) ≤ p) : s.sw p on = s := by unfold St.sw; rw [if_neg (by omega)]
theorem sw_in {s : St} {p : Nat} (on : Bool) (h : p < s.n) : s.sw p on = ⟨s.n, s.log, fun i => if i = p then !on else s.off i⟩ := by unfold St.sw; rw [if_pos (by omega), Int.toNat_natCast]
section
variable {w : World} {base sb pb mb tb gb ob : Nat} {lv : Value} {lg : Nat → Value} {s : St}
theorem SrcF.switch {w' : World} {p : Nat} {on : Bool} (h : SrcF w base sb pb mb lv lg s) (hp : p < s.n) (hu : Upd w w' (fun b => b = pb)) (hB : Blk w' pb (flat (ptc lg (fun i => if i = p then !on else s.off i)) s.n) 89) : SrcF w' base sb pb mb lv lg (s.sw p on) := by
  have hk := fun q => kpre_sw s p on q
  rw [sw_in on hp] at hk ⊢
  exact ⟨⟨⟨h.src.ok.n1, h.src.ok.n4, h.src.ok.le⟩, h.src.hd.upd hu (fun hx => kind_ne h.src.hd.kind h.src.pt.kind (by decide) hx), hB, fun i hi => (h.src.rc i hi).upd hu (fun b hb hx => kind_ne ((h.src.rc i hi).kind hb) h.src.pt.kind (by decide) hx)⟩,
    h.lst.upd hu (fun b hb hx => kind_ne (h.lst.kind hb) h.src.pt.kind (by decide) hx), by rw [hk]; exact h.map.upd hu (fun hx => h.map.ne h.src.pt.kind hx.symm), by rw [hk]; exact h.k64, h.sep, h.low, h.lowl⟩
theorem RSrcF.switch {w' : World} {p : Nat} {on : Bool} (h : RSrcF w base tb gb ob lv lg s) (hp : p < s.n) (hu : Upd w w' (fun b => b = ob)) (hB : Blk w' ob (flat (ofc (fun i => if i = p then !on else s.off i)) s.n) 4) : RSrcF w' base tb gb ob lv lg (s.sw p on) := by
  have hk := fun q => kpre_sw s p on q
  rw [sw_in on hp] at hk ⊢
  exact ⟨⟨⟨h.src.ok.n1, h.src.ok.n4, h.src.ok.le⟩, h.src.hd.upd hu (fun hx => kind_ne h.src.hd.kind h.src.os.kind (by decide) hx), h.src.gs.upd hu (fun hx => kind_ne h.src.gs.kind h.src.os.kind (by decide) hx), hB, fun i hi => (h.src.rc i hi).upd hu (fun b hb hx => kind_ne ((h.src.rc i hi).kind hb) h.src.os.kind (by decide) hx)⟩,
    h.lst.upd hu (fun b hb hx => kind_ne (h.lst.kind hb) h.src.os.kind (by decide) hx), by rw [hk]; exact h.k64, h.sep, h.low, h.lowl⟩
set_option maxRecDepth 100000 in
theorem sswitch_any {p : Int} {on : Bool} (h : SrcF w base sb pb mb lv lg s) :
    Calls Try.prog 23 #[.pointer (some ⟨sb, 0, none⟩), .int .i64 p, .bool on] w fun e w' => (∃ er, e = .returned (.int .i64 er)) ∧ SrcF w' base sb pb mb lv lg (s.sw p on) ∧ Upd w w' (fun b => b = pb) := by
  have HF := Lib.hid h
  by_cases hp : p < 0 ∨ (s.n : Int) ≤ p
  · have C1 := Lib.hid (find_out h.src hp)
    rw [sw_out on hp]
    clear h hp
    go_enter Try.func23, Try.ntmps23
    go_wp2_with fail
    refine C1.out.mono ?_
    rintro e w' ⟨rfl, rfl⟩
    go_wp2_with fail
    go_ret
    exact ⟨⟨_, rfl⟩, HF.out, .refl _ _⟩
  · obtain ⟨q, hq⟩ : ∃ q : Nat, p = q := ⟨p.toNat, by omega⟩
    subst hq
    have hp' : q < s.n := by omega
    have C1 := Lib.hid (find_in h.src hp')
    have hB := h.src.pt
    have x1 := h.src.c1 hp'
    have z0 := hB.lt
    have f1 := hB.free (q * 2 + 1)
    have hB2 := hB.set (q * 2 + 1) (.bool (!on))
    rw [ptc_set1 hp'] at hB2
    have HFIN := Lib.hid (h.switch hp' (.of_set ⟨pb, q * 2 + 1, none⟩ (.bool (!on)) rfl) hB2)
    have HU : Hid (Upd w (w.setCell ⟨pb, q * 2 + 1, none⟩ (.bool (!on))) (fun b => b = pb)) := Lib.hid (.of_set _ _ rfl)
    clear h hp hB hB2 hp' HF
    generalize s.off q = old at *
    go_enter Try.func23, Try.ntmps23
    go_wp2_with fail
    refine C1.out.mono ?_
    rintro e w' ⟨rfl, rfl⟩
    go_wp2_with fail
    go_ret
    exact ⟨⟨_, rfl⟩, HFIN.out, HU.out⟩
set_option maxRecDepth 100000 in
theorem rswitch_any {p : Int} {on : Bool} (h : RSrcF w base tb gb ob lv lg s) :
    Calls Try.prog 39 #[.pointer (some ⟨tb, 0, none⟩), .int .i64 p, .bool on] w fun e w' => (∃ er, e = .returned (.int .i64 er)) ∧ RSrcF w' base tb gb ob lv lg (s.sw p on) ∧ Upd w w' (fun b => b = ob) := by
  have HF := Lib.hid h
  by_cases hp : p < 0 ∨ (s.n : Int) ≤ p
  · have C1 := Lib.hid (rhas_out h.src hp)
    rw [sw_out on hp]
    clear h hp
    go_enter Try.func39, Try.ntmps39
    go_wp2_with fail
    refine C1.out.mono ?_
    rintro e w' ⟨rfl, rfl⟩
    go_wp2_with fail
    go_ret
    exact ⟨⟨_, rfl⟩, HF.out, .refl _ _⟩
  · obtain ⟨q, hq⟩ : ∃ q : Nat, p = q := ⟨p.toNat, by omega⟩
    subst hq
    have hp' : q < s.n := by omega
    have hpi : (q : Int) < (s.n : Int) := by omega
    have C1 := Lib.hid (rhas_in h.src hp')
    have hB := h.src.os
    have x1 := h.src.c1 hp'
    have y1 := h.src.h1
    have y2 := h.src.hd.lt
    have z0 := hB.lt
    have f1 := hB.free q
    have hB2 := hB.set q (.bool (!on))
    rw [ofc_set hp'] at hB2
    have HFIN := Lib.hid (h.switch hp' (.of_set ⟨ob, q, none⟩ (.bool (!on)) rfl) hB2)
    have HU : Hid (Upd w (w.setCell ⟨ob, q, none⟩ (.bool (!on))) (fun b => b = ob)) := Lib.hid (.of_set _ _ rfl)
    clear h hp hB hB2 hp' HF
    generalize s.off q = old at *
    obtain ⟨N, hN⟩ : ∃ N, s.n = N := ⟨_, rfl⟩
    rw [hN] at hpi y1
    clear hN
    go_enter Try.func39, Try.ntmps39
    go_wp2_with fail
    refine C1.out.mono ?_
    rintro e w' ⟨rfl, rfl⟩
    go_wp2_with fail
    go_ret
    exact ⟨⟨_, rfl⟩, HFIN.out, HU.out⟩
end
end Go.Proofs.Ytbckfoldjlgabaa
