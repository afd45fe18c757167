/- What the reference's texts stand on, in the seats of the rational laws. -/
import Derived.Test.YtginogcdjplhiaaGreatDoorQR
set_option linter.unusedVariables false
set_option linter.unusedSimpArgs false
namespace Go.Proofs.YtginogcdjplhiaaGreatDoor.Big
open Go.RowKit

theorem sign_range (x : Int) : -1 ≤ x.sign ∧ x.sign ≤ 1 := by rcases sign_cases x with ⟨_, h⟩ | ⟨_, h⟩ | ⟨_, h⟩ <;> rw [h] <;> decide
theorem mul_unit {a b : Int} (ha : -1 ≤ a ∧ a ≤ 1) (hb : -1 ≤ b ∧ b ≤ 1) : -1 ≤ a * b ∧ a * b ≤ 1 := by
  have h1 : (a * b).natAbs ≤ 1 * 1 := by rw [Int.natAbs_mul]; exact Nat.mul_le_mul (by omega) (by omega)
  omega

theorem tmod_sign {x y : Int} (h : x.tmod y ≠ 0) : (x.tmod y).sign = x.sign := by
  have h0 : (x.tmod y).natAbs = x.natAbs % y.natAbs := Int.natAbs_tmod ..
  have h1 := Nat.mod_le x.natAbs y.natAbs
  generalize x.natAbs % y.natAbs = m at h0 h1
  rcases Int.lt_trichotomy x 0 with hx | hx | hx
  · have h2 : x.tmod y ≤ 0 := by
      have := Int.tmod_nonneg (a := -x) y (by omega)
      rw [Int.neg_tmod] at this
      omega
    rw [Int.sign_eq_neg_one_of_neg hx, Int.sign_eq_neg_one_of_neg (by omega)]
  · omega
  · have h2 : 0 ≤ x.tmod y := Int.tmod_nonneg y (by omega)
    rw [Int.sign_eq_one_of_pos hx, Int.sign_eq_one_of_pos (by omega)]
end Go.Proofs.YtginogcdjplhiaaGreatDoor.Big
