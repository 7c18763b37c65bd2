/- PLAIN: values gathered, in any order and in parts. -/
import Derived.Test.YtelofaceadlfmaaDoorAggO
namespace Go.Proofs.YtelofaceadlfmaaDoor
open Go.RowKit Fl
/-- the values of n floats from the o-th on -/
def gath (k : Int) (f : Nat → Nat) (o : Nat) : Nat → V
  | 0 => V.none
  | n + 1 => merge k (gath k f o n) (ofV k (f (o + n)))
theorem gath_ok {k : Int} {f : Nat → Nat} {o : Nat} : ∀ {n : Nat}, (∀ i, i < n → f (o + i) < 2 ^ 64) → (gath k f o n).ok
  | 0, _ => none_ok
  | _ + 1, h => merge_ok (gath_ok fun i hi => h i (by omega)) (ofV_ok (h _ (by omega)))
theorem gath_fit {k : Int} {f : Nat → Nat} {o : Nat} : ∀ n : Nat, fit k (gath k f o n) = gath k f o n
  | 0 => fit_none k
  | _ + 1 => fit_merge k _ _
theorem gath_add {k : Int} {f : Nat → Nat} {o m : Nat} (hm : ∀ i, i < m → f (o + i) < 2 ^ 64) : ∀ {n : Nat}, (∀ i, i < n → f (o + m + i) < 2 ^ 64) → merge k (gath k f o m) (gath k f (o + m) n) = gath k f o (m + n)
  | 0, _ => by rw [gath, merge_none_right, gath_fit]; rfl
  | n + 1, h => by
    show merge k (gath k f o m) (merge k (gath k f (o + m) n) (ofV k (f (o + m + n)))) = merge k (gath k f o (m + n)) (ofV k (f (o + (m + n))))
    rw [← merge_assoc (gath_ok hm) (gath_ok fun i hi => h i (by omega)) (ofV_ok (h n (by omega))), gath_add hm (fun i hi => h i (by omega)), Nat.add_assoc]
theorem gath_front {k : Int} {f : Nat → Nat} {o n : Nat} (h : ∀ i, i < n + 1 → f (o + i) < 2 ^ 64) : merge k (gath k f (o + 1) n) (ofV k (f o)) = gath k f o (n + 1) := by
  have h1 : (gath k f o 1).ok := gath_ok fun i hi => h i (by omega)
  have h2 : (gath k f (o + 1) n).ok := gath_ok fun i hi => by rw [Nat.add_assoc, Nat.add_comm 1 i]; exact h (i + 1) (by omega)
  have e1 : gath k f o 1 = fit k (ofV k (f o)) := by
    show merge k V.none (ofV k (f (o + 0))) = _
    rw [merge_none_left]; rfl
  have h3 : (ofV k (f o)).ok := ofV_ok (h 0 (by omega))
  rw [merge_comm h2 h3, ← merge_fit_left, ← e1, gath_add (fun i hi => h i (by omega)) (fun i hi => by rw [Nat.add_assoc, Nat.add_comm 1 i]; exact h (i + 1) (by omega)), Nat.add_comm 1 n]
theorem gath_shift (k : Int) (f : Nat → Nat) (o : Nat) : ∀ n, gath k (fun i => f (o + i)) 0 n = gath k f o n
  | 0 => rfl
  | n + 1 => by
    show merge k (gath k (fun i => f (o + i)) 0 n) (ofV k (f (o + (0 + n)))) = _
    rw [gath_shift k f o n, Nat.zero_add]
    rfl
theorem gath_count {f : Nat → Nat} {o : Nat} : ∀ {n : Nat}, n < 9223372036854775808 → gath 1 f o (n + 1) = ⟨true, n + 1⟩
  | 0, _ => rfl
  | n + 1, h => by
    show merge 1 (gath 1 f o (n + 1)) ⟨true, 1⟩ = _
    rw [gath_count (n := n) (by omega)]
    show (⟨true, (n + 1 + 1) % 2 ^ 64⟩ : V) = _
    congr 1
    omega
theorem pick_below (z : Int) (len : Nat) (h0 : 0 < len) (h1 : len ≤ 9223372036854775807) : ∃ k : Nat, k < len ∧ wrap64 ((IntKind.u64.wrap z).tmod (len : Int)) = (k : Int) := by
  have h2 : 0 ≤ IntKind.u64.wrap z := by
    show 0 ≤ z % 18446744073709551616
    omega
  generalize IntKind.u64.wrap z = u at *
  have h3 := Int.tmod_eq_emod_of_nonneg (b := (len : Int)) h2
  have h4 := Int.emod_nonneg u (show (len : Int) ≠ 0 by omega)
  have h5 := Int.emod_lt_of_pos u (show (0 : Int) < (len : Int) by omega)
  rw [h3]
  refine ⟨(u % (len : Int)).toNat, by omega, ?_⟩
  generalize u % (len : Int) = m at *
  unfold wrap64
  omega
end Go.Proofs.YtelofaceadlfmaaDoor
