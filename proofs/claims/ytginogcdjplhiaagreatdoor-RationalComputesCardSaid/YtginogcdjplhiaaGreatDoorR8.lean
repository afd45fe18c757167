/- Contracts of the reference's numbers with a bound of their magnitude. -/
import Derived.Test.YtginogcdjplhiaaGreatDoorR7
set_option linter.unusedVariables false
set_option linter.unusedSimpArgs false
namespace Go.Proofs.YtginogcdjplhiaaGreatDoor.Ten
open Go.RowKit Go.Proofs.YtginogcdjplhiaaGreatDoor.Big
open Go.Lib (itoa)

def BT (k : Nat) (z : Int) : Prop := z.natAbs < pt k
theorem BT_mono {j k : Nat} {z : Int} (h : j ≤ k) (b : BT j z) : BT k z := Nat.lt_of_lt_of_le b (pt_mono h)
theorem BT_neg {k : Nat} {z : Int} (b : BT k z) : BT k (-z) := by unfold BT; rw [Int.natAbs_neg]; exact b
theorem BT_add {k : Nat} {x y : Int} (a : BT k x) (b : BT k y) : BT (k + 1) (x + y) := by
  unfold BT at *
  have h1 : pt (k + 1) = pt k * 10 := pt_succ k
  have h2 := Int.natAbs_add_le x y
  omega
theorem BT_mul {j k : Nat} {x y : Int} (a : BT j x) (b : BT k y) : BT (j + k) (x * y) := by
  unfold BT at *
  rw [Int.natAbs_mul, pt_add]
  exact Nat.mul_lt_mul'' a b
theorem BT_tdiv {k : Nat} {x : Int} (y : Int) (b : BT k x) : BT k (x.tdiv y) := by
  unfold BT at *; rw [Int.natAbs_tdiv]; exact Nat.lt_of_le_of_lt (Nat.div_le_self _ _) b
theorem BT_tmod {k : Nat} {x : Int} (y : Int) (b : BT k x) : BT k (x.tmod y) := by
  unfold BT at *; rw [Int.natAbs_tmod]; exact Nat.lt_of_le_of_lt (Nat.mod_le _ _) b
def NumB (w : World) (v : Value) (z : Int) (k : Nat) : Prop := NumV w v z ∧ BT k z
theorem NumB.ext {w w' : World} {v : Value} {z : Int} {k : Nat} (h : NumB w v z k) (x : Ext w w') : NumB w' v z k := ⟨h.1.ext x, h.2⟩
theorem NumB.shape {w : World} {v : Value} {z : Int} {k : Nat} (h : NumB w v z k) : ∃ s A n c, v = .agg #[.int .i64 s, .slice A n c] := by
  obtain ⟨s, A, n, c, h, _⟩ := h.1.shape
  exact ⟨s, A, n, c, h⟩
def NumBPost (w : World) (z : Int) (k : Nat) (e : Ending) (w' : World) : Prop := ∃ v, e = .returned v ∧ NumB w' v z k ∧ Ext w w'
theorem toNB {w : World} {z : Int} {k : Nat} (b : BT k z) {e : Ending} {w' : World} (h : NPost w z e w') : NumBPost w z k e w' := by
  obtain ⟨v, rfl, h1, h2⟩ := h
  exact ⟨v, rfl, ⟨h1, b⟩, h2⟩
theorem RAdd_b (x y : Value) (X Y : Int) (j k : Nat) (w : World) (hx : NumB w x X j) (hy : NumB w y Y k) (hL : max j k ≤ 100000000000) : Calls Tryz.prog 41 #[x, y] w (NumBPost w (X + Y) (max j k + 1)) :=
  (Add_any x y X Y (max j k) w hx.1 hy.1 (BT_mono (Nat.le_max_left _ _) hx.2) (BT_mono (Nat.le_max_right _ _) hy.2) (by omega)).mono fun _ _ h => toNB (BT_add (BT_mono (Nat.le_max_left _ _) hx.2) (BT_mono (Nat.le_max_right _ _) hy.2)) h
theorem RNeg_b (x : Value) (X : Int) (j : Nat) (w : World) (hx : NumB w x X j) : Calls Tryz.prog 42 #[x] w (NumBPost w (-X) j) :=
  (Neg_any x X w hx.1).mono fun _ _ h => toNB (BT_neg hx.2) h
theorem RCmp_b (x y : Value) (X Y : Int) (j k : Nat) (w : World) (hx : NumB w x X j) (hy : NumB w y Y k) (hL : max j k ≤ 100000000000) : Calls Tryz.prog 38 #[x, y] w (IntPost w (cmpZ X Y)) :=
  Cmp_any x y X Y (max j k) w hx.1 hy.1 (BT_mono (Nat.le_max_left _ _) hx.2) (BT_mono (Nat.le_max_right _ _) hy.2) (by omega)
theorem RText_b (x : Value) (X : Int) (j : Nat) (w : World) (hx : NumB w x X j) (hL : j ≤ 100000000000) : Calls Tryz.prog 24 #[x] w (StrPost w (itoa X)) :=
  Text_any x X j w hx.1 hx.2 (by omega)
end Go.Proofs.YtginogcdjplhiaaGreatDoor.Ten
