/- Walks: refutes, proves, same. -/
import Derived.Test.YthafabkjidifeaaLV7
import Derived.Test.YthafabkjidifeaaLV3
set_option linter.unusedVariables false
set_option linter.unusedSimpArgs false
namespace Go.Proofs.Ythafabkjidifeaa.Lp
open Go.RowKit Go.Proofs.Ythafabkjidifeaa.Big Go.Proofs.Ythafabkjidifeaa.Rt

def refB (p : Prob) (ny : Nat) (y : Nat → Rat) : Bool := combB p ny y && nnB (p.left y) p.n && decide (p.rhs y < 0)
def geB (f g : Nat → Rat) : Nat → Bool
  | 0 => true
  | j + 1 => geB f g j && decide (g j ≤ f j)
def proB (p : Prob) (ny : Nat) (y : Nat → Rat) (z : Rat) : Bool := combB p ny y && geB (p.left y) p.obj p.n && decide (p.rhs y = z)
theorem geB_iff {f g : Nat → Rat} {n : Nat} : geB f g n = true ↔ ∀ j, j < n → g j ≤ f j := by
  induction n with
  | zero => exact ⟨fun _ i hi => absurd hi (by omega), fun _ => rfl⟩
  | succ n ih =>
    show (geB f g n && decide (g n ≤ f n)) = true ↔ _
    rw [Bool.and_eq_true, ih, decide_eq_true_eq]
    constructor
    · rintro ⟨a, b⟩ i hi
      by_cases e : i = n
      · subst e; exact b
      · exact a i (by omega)
    · intro h; exact ⟨fun i hi => h i (by omega), h n (by omega)⟩
theorem refB_of {p : Prob} {y : Nat → Rat} (h : p.Refutes y) : refB p p.m y = true := by
  unfold refB
  rw [Bool.and_eq_true, Bool.and_eq_true, combB_iff, nnB_iff, decide_eq_true_eq]
  exact ⟨⟨⟨rfl, h.1⟩, h.2.1⟩, h.2.2⟩
theorem proB_of {p : Prob} {y : Nat → Rat} {z : Rat} (h : p.Proves y z) : proB p p.m y z = true := by
  unfold proB
  rw [Bool.and_eq_true, Bool.and_eq_true, combB_iff, geB_iff, decide_eq_true_eq]
  exact ⟨⟨⟨rfl, h.1⟩, h.2.1⟩, h.2.2⟩
end Go.Proofs.Ythafabkjidifeaa.Lp
