/- PLAIN: steps of pipelines. -/
import Derived.Test.YtbckfoldjlgabaaLaw01Bounds
import Derived.Test.YtbckfoldjlgabaaRefG
open Ieee
namespace Go.Proofs.Ytbckfoldjlgabaa
open Go.RowKit
open Fl (nan key canon)

/-- a step, a record -/
structure Stp where
  kind : Int
  n : Int
  x : Nat
def Stp.ok (o : Stp) : Prop := -9223372036854775808 ≤ o.kind ∧ o.kind ≤ 9223372036854775807 ∧ -9223372036854775808 ≤ o.n ∧ o.n ≤ 9223372036854775807 ∧ o.x < 2 ^ 64
structure Rc where
  key : Int
  val : Nat
def Rc.ok (r : Rc) : Prop := 0 ≤ r.key ∧ r.key ≤ 18446744073709551615 ∧ r.val < 2 ^ 64
def flt (a b : Nat) : Bool := !nan a && !nan b && decide (key a < key b)
def zer (a : Nat) : Bool := !nan a && decide (ab a = 0)
def sde (x : Nat) : Int := if flt x 0 = true then 0 else if zer x = true then 1 else if flt 0 x = true then 2 else 3
def inv (x : Nat) : Nat := match double.div 4607182418800017408 x with
  | some r => canon r
  | none => Fl.QN
def isStp (o : Stp) : Bool := if o.kind = 7 then decide (-2200 ≤ o.n ∧ o.n ≤ 2200) else if o.kind = 11 then decide (1 ≤ o.n) else decide (1 ≤ o.kind ∧ o.kind ≤ 12)
def fate (o : Stp) (x : Nat) : Int :=
  if o.kind = 1 then (if flt x o.x = true then 1 else 2) else
  if o.kind = 2 then (if flt o.x x = true then 1 else 2) else
  if o.kind = 3 then (if nan x = true then 2 else 1) else
  if o.kind = 9 then (if 2047 * 2 ^ 52 ≤ Fl.rung x then 3 else 1) else
  if o.kind = 10 then (if Fl.whole x = 0 then 3 else 1) else 1
def nval (o : Stp) (x : Nat) : Nat :=
  if o.kind = 4 then canon (Fl.flip x) else
  if o.kind = 5 then canon (ab x) else
  if o.kind = 6 then floor x else
  if o.kind = 7 then Fl.scl x o.n else
  if o.kind = 8 then inv x else
  if o.kind = 10 then floatOfInt .f64 (wrap64 (o.n.tdiv (Fl.whole x))) else x
def nkey (o : Stp) (k : Int) (x : Nat) : Int :=
  if o.kind = 11 then k % o.n else if o.kind = 12 then k % 4611686018427387904 * 4 + sde x else k
theorem sde_bounds (x : Nat) : 0 ≤ sde x ∧ sde x ≤ 3 := by unfold sde; repeat' split
                                                           all_goals decide
theorem floor_canon (b : Nat) : canon (floor b) = floor b := by
  unfold floor
  split
  · decide
  · exact Fl.canon_canon _
theorem inv_canon (x : Nat) : canon (inv x) = inv x := by
  unfold inv
  split
  · exact Fl.canon_canon _
  · decide
theorem inv_lt (x : Nat) : inv x < 2 ^ 64 := by
  unfold inv
  split
  · rename_i h; exact Fl.canon_lt (double.div_lt h)
  · decide
theorem nval_lt {o : Stp} {x : Nat} (hx : x < 2 ^ 64) : nval o x < 2 ^ 64 := by
  unfold nval
  repeat' split
  · exact Fl.canon_lt (Fl.flip_lt hx)
  · exact Fl.canon_lt (ab_lt x)
  · exact floor_lt
  · exact Fl.scl_lt hx _
  · exact inv_lt x
  · exact Fl.ofInt_lt _
  · exact hx
theorem nval_canon {o : Stp} {x : Nat} (hx : canon x = x) : canon (nval o x) = nval o x := by
  unfold nval
  repeat' split
  · exact Fl.canon_canon _
  · exact Fl.canon_canon _
  · exact floor_canon x
  · exact Fl.scl_canon _ _
  · exact inv_canon x
  · exact Fl.canon_num (Fl.nan_ofInt _)
  · exact hx
theorem nkey_ok {o : Stp} {k : Int} {x : Nat} (ho : isStp o = true) (h0 : 0 ≤ k) (h1 : k ≤ 18446744073709551615) : 0 ≤ nkey o k x ∧ nkey o k x ≤ 18446744073709551615 := by
  unfold nkey
  split
  · rename_i h
    unfold isStp at ho
    rw [if_neg (by omega), if_pos h] at ho
    have hn : 1 ≤ o.n := of_decide_eq_true ho
    exact ⟨Int.emod_nonneg _ (by omega), by have h2 := Int.emod_nonneg k (show o.n ≠ 0 by omega); have h3 := Int.mul_ediv_add_emod k o.n; have h4 := Int.ediv_nonneg h0 (show 0 ≤ o.n by omega); have h5 := Int.mul_nonneg (show 0 ≤ o.n by omega) h4; omega⟩
  · split
    · have := sde_bounds x; omega
    · exact ⟨h0, h1⟩
/-- a record through steps: n of them, from the i-th on -/
def thru (f : Nat → Stp) : Nat → Nat → Rc → Rc × Int
  | 0, _, r => (r, 1)
  | n + 1, i, r => if fate (f i) r.val = 1 then thru f n (i + 1) ⟨nkey (f i) r.key r.val, nval (f i) r.val⟩ else (⟨0, 0⟩, fate (f i) r.val)
/-- is it a pipeline? -/
def allStp (f : Nat → Stp) : Nat → Nat → Bool
  | 0, _ => true
  | n + 1, i => isStp (f i) && allStp f n (i + 1)
def chk (f : Nat → Stp) (len : Nat) : Int := if 8 < len then 30 else if allStp f len 0 = true then 0 else 30
def runOps (f : Nat → Stp) (len : Nat) (r : Rc) : Rc × Int := if chk f len = 0 then thru f len 0 ⟨r.key, canon r.val⟩ else (⟨0, 0⟩, 0)
def one (o : Stp) (r : Rc) : Rc × Int := if isStp o = true then thru (fun _ => o) 1 0 ⟨r.key, canon r.val⟩ else (⟨0, 0⟩, 0)
theorem lss_flt (t : TypeId) {a b : Nat} (ha : a < 2 ^ 64) (hb : b < 2 ^ 64) : binOp .lss t (.float .f64 a) (.float .f64 b) = pure (.bool (flt a b)) := by
  unfold flt
  cases na : nan a
  · cases nb : nan b
    · rw [lss_num t ha hb na nb]; rfl
    · rw [binOp_float_cmp_lss]; show pure (Value.bool (double.order a b == some .lt)) = _; rw [Fl.order_nan_right nb]; rfl
  · rw [binOp_float_cmp_lss]; show pure (Value.bool (double.order a b == some .lt)) = _; rw [Fl.order_nan_left na]; rfl
theorem gtr_flt (t : TypeId) {a b : Nat} (ha : a < 2 ^ 64) (hb : b < 2 ^ 64) : binOp .gtr t (.float .f64 a) (.float .f64 b) = pure (.bool (flt b a)) := by
  unfold flt
  cases na : nan a
  · cases nb : nan b
    · rw [gtr_num t ha hb na nb]; rfl
    · rw [binOp_float_cmp_gtr]; show pure (Value.bool (double.order a b == some .gt)) = _; rw [Fl.order_nan_right nb]; rfl
  · rw [binOp_float_cmp_gtr]; show pure (Value.bool (double.order a b == some .gt)) = _; rw [Fl.order_nan_left na]; cases nan b <;> rfl
theorem eql_zer (t : TypeId) {a : Nat} (ha : a < 2 ^ 64) : binOp .eql t (.float .f64 a) (.float .f64 0) = pure (.bool (zer a)) := by
  unfold zer
  cases na : nan a
  · rw [eql_zero t ha na]; rfl
  · rw [eql_zero_nan t na]; rfl
end Go.Proofs.Ytbckfoldjlgabaa
