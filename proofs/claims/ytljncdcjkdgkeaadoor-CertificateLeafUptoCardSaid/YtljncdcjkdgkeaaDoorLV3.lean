/- Walks: Value, Feasible. Walk: Feasible. -/
import Derived.Test.YtljncdcjkdgkeaaDoorLV5
set_option linter.unusedVariables false
set_option linter.unusedSimpArgs false
namespace Go.Proofs.YtljncdcjkdgkeaaDoor.Lp
open Go.RowKit Go.Proofs.YtljncdcjkdgkeaaDoor.Big Go.Proofs.YtljncdcjkdgkeaaDoor.Rt

instance holdsDec (rel : Nat) (l r : Rat) : Decidable (Holds rel l r) := by unfold Holds; infer_instance
def nnB (x : Nat → Rat) : Nat → Bool
  | 0 => true
  | j + 1 => nnB x j && decide (0 ≤ x j)
def hB (p : Prob) (x : Nat → Rat) (i : Nat) : Bool := decide (Holds (p.rel i) (dot p.n (p.coef i) x) (p.right i))
def hsB (p : Prob) (x : Nat → Rat) : Nat → Bool
  | 0 => true
  | i + 1 => hsB p x i && hB p x i
def feasB (p : Prob) (n : Nat) (x : Nat → Rat) : Bool := validB p && (n == p.n) && nnB x n && hsB p x p.m
theorem nnB_iff {x : Nat → Rat} {n : Nat} : nnB x n = true ↔ ∀ j, j < n → 0 ≤ x j := by
  induction n with
  | zero => exact ⟨fun _ i hi => absurd hi (by omega), fun _ => rfl⟩
  | succ n ih =>
    show (nnB x n && decide (0 ≤ x n)) = true ↔ _
    rw [Bool.and_eq_true, ih, decide_eq_true_eq]
    constructor
    · rintro ⟨a, b⟩ i hi
      by_cases e : i = n
      · subst e; exact b
      · exact a i (by omega)
    · intro h; exact ⟨fun i hi => h i (by omega), h n (by omega)⟩
theorem hsB_iff {p : Prob} {x : Nat → Rat} {m : Nat} : hsB p x m = true ↔ ∀ i, i < m → Holds (p.rel i) (dot p.n (p.coef i) x) (p.right i) := by
  induction m with
  | zero => exact ⟨fun _ i hi => absurd hi (by omega), fun _ => rfl⟩
  | succ m ih =>
    show (hsB p x m && hB p x m) = true ↔ _
    rw [Bool.and_eq_true, ih]
    unfold hB
    rw [decide_eq_true_eq]
    constructor
    · rintro ⟨a, b⟩ i hi
      by_cases e : i = m
      · subst e; exact b
      · exact a i (by omega)
    · intro h; exact ⟨fun i hi => h i (by omega), h m (by omega)⟩
theorem feasB_iff {p : Prob} {n : Nat} {x : Nat → Rat} : feasB p n x = true ↔ p.Valid ∧ n = p.n ∧ p.Feas x := by
  unfold feasB Prob.Feas
  rw [Bool.and_eq_true, Bool.and_eq_true, Bool.and_eq_true, validB_iff, nnB_iff, hsB_iff, beq_iff_eq]
  constructor
  · rintro ⟨⟨⟨a, rfl⟩, b⟩, c⟩; exact ⟨a, rfl, b, c⟩
  · rintro ⟨a, rfl, b, c⟩; exact ⟨⟨⟨a, rfl⟩, b⟩, c⟩
theorem nnB_no {x : Nat → Rat} {j n : Nat} (h : ¬ 0 ≤ x j) (hj : j < n) : nnB x n = false := by
  cases e : nnB x n with
  | false => rfl
  | true => exact absurd (nnB_iff.1 e j hj) h
theorem hsB_no {p : Prob} {x : Nat → Rat} {i m : Nat} (h : hB p x i = false) (hi : i < m) : hsB p x m = false := by
  cases e : hsB p x m with
  | false => rfl
  | true =>
    have := hsB_iff.1 e i hi
    unfold hB at h
    exact absurd this (of_decide_eq_false h)
end Go.Proofs.YtljncdcjkdgkeaaDoor.Lp

namespace Go.Proofs.YtljncdcjkdgkeaaDoor.Lp
open Go.RowKit Go.Proofs.YtljncdcjkdgkeaaDoor.Big Go.Proofs.YtljncdcjkdgkeaaDoor.Rt

end Go.Proofs.YtljncdcjkdgkeaaDoor.Lp
