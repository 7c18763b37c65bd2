/- PLAIN: a pipeline in two parts, and step by step. -/
import Derived.Test.YtgcbjpdmnlanoaaOpsM
namespace Go.Proofs.Ytgcbjpdmnlanoaa
open Go.RowKit
open Fl (nan key canon)
theorem thru_split (f : Nat → Stp) (m : Nat) : ∀ (k i : Nat) (r : Rc), thru f (k + m) i r = if (thru f k i r).2 = 1 then thru f m (i + k) (thru f k i r).1 else thru f k i r
  | 0, i, r => by rw [Nat.zero_add]; rfl
  | k + 1, i, r => by
    rw [show k + 1 + m = (k + m) + 1 by omega]
    by_cases h : fate (f i) r.val = 1
    · have e1 : ∀ n, thru f (n + 1) i r = thru f n (i + 1) ⟨nkey (f i) r.key r.val, nval (f i) r.val⟩ := fun n => if_pos h
      rw [e1, e1, thru_split f m k, show i + 1 + k = i + (k + 1) by omega]
    · have e1 : ∀ n, thru f (n + 1) i r = (⟨0, 0⟩, fate (f i) r.val) := fun n => if_neg h
      rw [e1, e1, if_neg h]
theorem thru_shift (f : Nat → Stp) (k : Nat) : ∀ (m i : Nat) (r : Rc), thru (fun j => f (j + k)) m i r = thru f m (i + k) r
  | 0, _, _ => rfl
  | m + 1, i, r => by
    unfold thru
    rw [thru_shift f k m, show i + 1 + k = i + k + 1 by omega]
theorem thru_canon (f : Nat → Stp) : ∀ (m i : Nat) (r : Rc), canon r.val = r.val → canon (thru f m i r).1.val = (thru f m i r).1.val
  | 0, _, _, h => h
  | m + 1, i, r, h => by
    unfold thru
    split
    · exact thru_canon f m _ _ (nval_canon h)
    · exact (by decide : canon 0 = 0)
theorem rc0_ok : (⟨0, 0⟩ : Rc).ok := ⟨by decide, by decide, by decide⟩
theorem thru_ok (f : Nat → Stp) : ∀ (m i : Nat) (r : Rc), (∀ j, i ≤ j → j < i + m → isStp (f j) = true) → r.ok → (thru f m i r).1.ok
  | 0, _, _, _, h => h
  | m + 1, i, r, hs, h => by
    unfold thru
    split
    · refine thru_ok f m _ _ (fun j h1 h2 => hs j (by omega) (by omega)) ?_
      have hk := nkey_ok (x := r.val) (hs i (Nat.le_refl _) (by omega)) h.1 h.2.1
      exact ⟨hk.1, hk.2, nval_lt h.2.2⟩
    · exact rc0_ok
theorem chk_of {f : Nat → Stp} {len : Nat} (h8 : len ≤ 8) (h : ∀ i, i < len → isStp (f i) = true) : chk f len = 0 := by
  unfold chk
  rw [if_neg (by omega), if_pos (allStp_true (fun j _ h2 => h j (by omega)))]
/-- in two parts -/
theorem run_parts {f : Nat → Stp} {len k : Nat} {r : Rc} (h8 : len ≤ 8) (h : ∀ i, i < len → isStp (f i) = true) (hk : k ≤ len) :
    runOps f len r = if (runOps f k r).2 = 1 then runOps (fun j => f (j + k)) (len - k) (runOps f k r).1 else runOps f k r := by
  have e1 : ∀ n, n ≤ len → runOps f n r = thru f n 0 ⟨r.key, canon r.val⟩ := fun n hn => by
    unfold runOps
    rw [if_pos (chk_of (by omega) (fun i hi => h i (by omega)))]
  have e2 : ∀ x : Rc, canon x.val = x.val → runOps (fun j => f (j + k)) (len - k) x = thru f (len - k) k x := fun x hx => by
    unfold runOps
    rw [if_pos (chk_of (by omega) (fun i hi => h (i + k) (by omega))), thru_shift, hx, Nat.zero_add]
  rw [e1 len (Nat.le_refl _), e1 k hk, e2 _ (thru_canon f k 0 ⟨r.key, canon r.val⟩ (Fl.canon_canon _))]
  have := thru_split f (len - k) k 0 ⟨r.key, canon r.val⟩
  rw [show k + (len - k) = len by omega, Nat.zero_add] at this
  exact this
theorem run_ok {f : Nat → Stp} {len : Nat} {r : Rc} (h : ∀ i, i < len → isStp (f i) = true) (hr : r.ok) : (runOps f len r).1.ok := by
  unfold runOps
  split
  · exact thru_ok f len 0 _ (fun j _ h2 => h j (by omega)) ⟨hr.1, hr.2.1, Fl.canon_lt hr.2.2⟩
  · exact rc0_ok
/-- step by step: what holds at the head of round i -/
structure ChJ (f : Nat → Stp) (len i : Nat) (x : Rc) (g : Int) (T : Rc × Int) : Prop where
  ok : x.ok
  go : g = 1 → thru f (len - i) i ⟨x.key, canon x.val⟩ = T ∧ (0 < i → canon x.val = x.val)
  no : g ≠ 1 → (x, g) = T ∧ 0 < i
theorem one_thru {o : Stp} {x : Rc} (h : isStp o = true) : one o x = if fate o (canon x.val) = 1 then (⟨nkey o x.key (canon x.val), nval o (canon x.val)⟩, 1) else (⟨0, 0⟩, fate o (canon x.val)) := by
  unfold one
  rw [if_pos h]
  rfl
theorem ChJ.step {f : Nat → Stp} {len i : Nat} {x : Rc} {g : Int} {T : Rc × Int} (h : ChJ f len i x g T) (hg : g = 1) (hi : i < len) (hs : isStp (f i) = true) : ChJ f len (i + 1) (one (f i) x).1 (one (f i) x).2 T := by
  obtain ⟨h1, _⟩ := h.go hg
  have hxo : x.ok := h.ok
  rw [show len - i = (len - (i + 1)) + 1 by omega] at h1
  rw [one_thru hs]
  by_cases hf : fate (f i) (canon x.val) = 1
  · have e1 : thru f (len - (i + 1) + 1) i ⟨x.key, canon x.val⟩ = thru f (len - (i + 1)) (i + 1) ⟨nkey (f i) x.key (canon x.val), nval (f i) (canon x.val)⟩ := if_pos hf
    rw [e1] at h1
    rw [if_pos hf]
    have hc := nval_canon (o := f i) (Fl.canon_canon x.val)
    have hk := nkey_ok (x := canon x.val) hs hxo.1 hxo.2.1
    exact ⟨⟨hk.1, hk.2, nval_lt (Fl.canon_lt hxo.2.2)⟩, fun _ => ⟨by dsimp only; rw [hc]; exact h1, fun _ => hc⟩, fun hn => absurd rfl hn⟩
  · have e1 : thru f (len - (i + 1) + 1) i ⟨x.key, canon x.val⟩ = (⟨0, 0⟩, fate (f i) (canon x.val)) := if_neg hf
    rw [e1] at h1
    rw [if_neg hf]
    exact ⟨rc0_ok, fun hn => absurd hn hf, fun _ => ⟨h1, by omega⟩⟩
theorem ChJ.start {f : Nat → Stp} {len : Nat} {r : Rc} (hr : r.ok) (hc : chk f len = 0) : ChJ f len 0 r 1 (runOps f len r) :=
  ⟨hr, fun _ => ⟨by unfold runOps; rw [if_pos hc, Nat.sub_zero], fun h => absurd h (Nat.lt_irrefl 0)⟩, fun h => absurd rfl h⟩
theorem ChJ.done {f : Nat → Stp} {len i : Nat} {x : Rc} {g : Int} {T : Rc × Int} (h : ChJ f len i x g T) (hi : i ≤ len) (he : ¬ (i < len ∧ g = 1)) : (if len = 0 then ⟨x.key, canon x.val⟩ else x, g) = T := by
  by_cases hg : g = 1
  · obtain ⟨h1, h2⟩ := h.go hg
    obtain rfl : i = len := by omega
    rw [Nat.sub_self] at h1
    have h1' : ((⟨x.key, canon x.val⟩ : Rc), (1 : Int)) = T := h1
    subst hg
    split
    · exact h1'
    · rw [h2 (by omega)] at h1'; exact h1'
  · obtain ⟨h1, h2⟩ := h.no hg
    rw [if_neg (by omega)]
    exact h1
end Go.Proofs.Ytgcbjpdmnlanoaa
