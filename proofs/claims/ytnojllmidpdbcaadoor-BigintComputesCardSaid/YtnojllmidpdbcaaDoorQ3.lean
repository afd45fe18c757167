/- Walks: bounds of magnitude, and contracts for the laws on sums and products. -/
import Derived.Test.YtnojllmidpdbcaaDoorQ2
set_option linter.unusedVariables false
set_option linter.unusedSimpArgs false
namespace Go.Proofs.YtnojllmidpdbcaaDoor.Big
open Go.RowKit

def B (k : Nat) (z : Int) : Prop := z.natAbs < pw k
theorem pw_le {j k : Nat} (h : j ≤ k) : pw j ≤ pw k := Nat.pow_le_pow_right (by decide) h
theorem pw_add' (j k : Nat) : pw (j + k) = pw j * pw k := Nat.pow_add _ _ _
theorem B_mono {j k : Nat} {z : Int} (h : j ≤ k) (b : B j z) : B k z := Nat.lt_of_lt_of_le b (pw_le h)
theorem B_neg {k : Nat} {z : Int} (b : B k z) : B k (-z) := by unfold B; rw [Int.natAbs_neg]; exact b
theorem B_abs {k : Nat} {z : Int} (b : B k z) : B k ((z.natAbs : Nat) : Int) := by unfold B; rw [Int.natAbs_natCast]; exact b
theorem B_add {k : Nat} {x y : Int} (a : B k x) (b : B k y) : B (k + 1) (x + y) := by
  unfold B at *
  have h1 : pw (k + 1) = pw k * 4294967296 := Nat.pow_succ ..
  have h2 := Int.natAbs_add_le x y
  omega
theorem B_sub {k : Nat} {x y : Int} (a : B k x) (b : B k y) : B (k + 1) (x - y) := by
  rw [Int.sub_eq_add_neg]; exact B_add a (B_neg b)
theorem B_mul {j k : Nat} {x y : Int} (a : B j x) (b : B k y) : B (j + k) (x * y) := by
  unfold B at *
  rw [Int.natAbs_mul, pw_add']
  exact Nat.mul_lt_mul'' a b
theorem cmpZ_self (x : Int) : cmpZ x x = 0 := by unfold cmpZ; simp
theorem Cmp_eq (x y : Value) (X Y : Int) (w : World) (hx : BigV w x X) (hy : BigV w y Y) (h : X = Y) : Calls Tryd.prog 20 #[x, y] w (IntPost w 0) := by
  have := Cmp_any x y X Y w hx hy
  rw [h, cmpZ_self] at this
  exact this
theorem parse_bound {s : ByteArray} (h : okT s = true) : B 80 (parseZ s.data.toList) := by
  unfold okT at h
  simp only [Bool.and_eq_true, decide_eq_true_eq] at h
  obtain ⟨h1, h2⟩ := h
  have h3 : digs (rest s.data.toList) = true := by
    unfold isDec at h2
    simp only [Bool.and_eq_true] at h2
    exact h2.1.2
  unfold B parseZ
  rw [sgn_natAbs]
  have h4 := valD_lt h3
  have h5 := ten_le_pw (rest s.data.toList).length
  have h6 := rest_len s.data.toList
  have h7 : s.data.toList.length = s.size := rfl
  have h8 := pw_le (show (rest s.data.toList).length ≤ 80 by omega)
  exact Nat.lt_of_lt_of_le h4 (Nat.le_trans h5 h8)
def zeroS : ByteArray := ⟨#[48]⟩
theorem okT_zero : okT zeroS = true := by decide
theorem parse_zero : parseZ zeroS.data.toList = 0 := by decide
/-- a number of the heap with a bound of its magnitude -/
def BigB (w : World) (v : Value) (z : Int) (k : Nat) : Prop := BigV w v z ∧ B k z
theorem BigB.ext {w w' : World} {v : Value} {z : Int} {k : Nat} (h : BigB w v z k) (x : Ext w w') : BigB w' v z k := ⟨h.1.ext x, h.2⟩
def BigBPost (w : World) (z : Int) (k : Nat) (e : Ending) (w' : World) : Prop := ∃ v, e = .returned v ∧ BigB w' v z k ∧ Ext w w'
theorem toB {w : World} {z : Int} {k : Nat} (b : B k z) {e : Ending} {w' : World} (h : BigPost w z e w') : BigBPost w z k e w' := by
  obtain ⟨v, rfl, h1, h2⟩ := h
  exact ⟨v, rfl, ⟨h1, b⟩, h2⟩
theorem Add_b (x y : Value) (X Y : Int) (j k : Nat) (w : World) (hx : BigB w x X j) (hy : BigB w y Y k) (hL : max j k ≤ 1099511627776) : Calls Tryd.prog 24 #[x, y] w (BigBPost w (X + Y) (max j k + 1)) :=
  (Add_any x y X Y (max j k) w hx.1 hy.1 (B_mono (Nat.le_max_left _ _) hx.2) (B_mono (Nat.le_max_right _ _) hy.2) hL).mono fun _ _ h => toB (B_add (B_mono (Nat.le_max_left _ _) hx.2) (B_mono (Nat.le_max_right _ _) hy.2)) h
theorem Sub_b (x y : Value) (X Y : Int) (j k : Nat) (w : World) (hx : BigB w x X j) (hy : BigB w y Y k) (hL : max j k ≤ 1099511627776) : Calls Tryd.prog 28 #[x, y] w (BigBPost w (X - Y) (max j k + 1)) :=
  (Sub_any x y X Y (max j k) w hx.1 hy.1 (B_mono (Nat.le_max_left _ _) hx.2) (B_mono (Nat.le_max_right _ _) hy.2) hL).mono fun _ _ h => toB (B_sub (B_mono (Nat.le_max_left _ _) hx.2) (B_mono (Nat.le_max_right _ _) hy.2)) h
theorem Mul_b (x y : Value) (X Y : Int) (j k : Nat) (w : World) (hx : BigB w x X j) (hy : BigB w y Y k) (hL : max j k ≤ 1099511627776) : Calls Tryd.prog 23 #[x, y] w (BigBPost w (X * Y) (j + k)) :=
  (Mul_any x y X Y (max j k) w hx.1 hy.1 (B_mono (Nat.le_max_left _ _) hx.2) (B_mono (Nat.le_max_right _ _) hy.2) hL).mono fun _ _ h => toB (B_mul hx.2 hy.2) h
theorem Neg_b (x : Value) (X : Int) (j : Nat) (w : World) (hx : BigB w x X j) : Calls Tryd.prog 27 #[x] w (BigBPost w (-X) j) :=
  (Neg_any x X w hx.1).mono fun _ _ h => toB (B_neg hx.2) h
theorem abs_b (x : Value) (X : Int) (j : Nat) (w : World) (hx : BigB w x X j) : Calls Tryd.prog 25 #[x] w (BigBPost w ((X.natAbs : Nat) : Int) j) :=
  (abs_any x X w hx.1).mono fun _ _ h => toB (B_abs hx.2) h
theorem Cmp_eqb (x y : Value) (X Y : Int) (j k : Nat) (w : World) (hx : BigB w x X j) (hy : BigB w y Y k) (h : X = Y) : Calls Tryd.prog 20 #[x, y] w (IntPost w 0) := Cmp_eq x y X Y w hx.1 hy.1 h
theorem Cmp_b (x y : Value) (X Y : Int) (j k : Nat) (w : World) (hx : BigB w x X j) (hy : BigB w y Y k) : Calls Tryd.prog 20 #[x, y] w (IntPost w (cmpZ X Y)) := Cmp_any x y X Y w hx.1 hy.1
theorem Sign_b (x : Value) (X : Int) (j : Nat) (w : World) (hx : BigB w x X j) : Calls Tryd.prog 16 #[x] w (IntPost w X.sign) := Sign_any x X w hx.1
/-- Ext by another name: what a drawn region holds -/
def Later (a b : World) : Prop := Ext a b
theorem Later.refl (w : World) : Later w w := Ext.refl w
theorem Later.drew {a b : World} (h : Later a b) : Later a b.drew := Ext.drew h
theorem Later.drewN {a b : World} (h : Later a b) (n : Nat) : Later a (b.drewN n) := Ext.drewN h n
theorem Later.alloc {a b : World} (h : Later a b) (o : Obj) : Later a (b.alloc o) := Ext.alloc h o
theorem Later.step {a b c : World} (h : Later a b) (k : Ext b c) : Later a c := Ext.trans h k
end Go.Proofs.YtnojllmidpdbcaaDoor.Big
