/- Walk: the rational numbers' Text. -/
import Derived.Test.YthafabkjidifeaaT4
import Derived.Test.YthafabkjidifeaaP2
set_option linter.unusedVariables false
set_option linter.unusedSimpArgs false
namespace Go.Proofs.Ythafabkjidifeaa.Rt
open Go.RowKit Go.Proofs.Ythafabkjidifeaa.Big
open Go.Lib (itoa)

theorem cmpZ_zero {x y : Int} : cmpZ x y = 0 ↔ x = y := by
  unfold cmpZ
  split
  · exact ⟨fun h => by omega, fun h => by omega⟩
  · split
    · exact ⟨fun h => by omega, fun h => by omega⟩
    · exact ⟨fun h => by omega, fun h => by omega⟩
theorem cat_slash (a b : List UInt8) : ((⟨a.toArray⟩ : ByteArray) ++ ⟨#[47]⟩) ++ ⟨b.toArray⟩ = ⟨(a ++ 47 :: b).toArray⟩ := by
  apply ByteArray.ext
  simp

theorem pw_ten (k : Nat) : pw k ≤ 10 ^ (10 * k) := by
  unfold pw
  rw [Nat.pow_mul]
  exact Nat.pow_le_pow_left (by decide) k
theorem dec_len {u k : Nat} (hk : 0 < k) (h : u < pw k) : (Lib.decDigits u).length ≤ 10 * k := by
  rw [Lib.decDigits_length]
  exact nDigits_le (by omega) (Nat.lt_of_lt_of_le h (pw_ten k))
theorem itoa_len {z : Int} {k : Nat} (hk : 0 < k) (b : B k z) : (itoa z).length ≤ 10 * k + 1 := by
  unfold B at b
  rcases Int.lt_or_le z 0 with h | h
  · obtain ⟨u, rfl⟩ : ∃ u : Nat, z = -(u : Int) := ⟨z.natAbs, by omega⟩
    rw [Lib.itoa_neg u (by omega), List.length_cons]
    have := dec_len (u := u) hk (by omega)
    omega
  · obtain ⟨u, rfl⟩ : ∃ u : Nat, z = (u : Int) := ⟨z.natAbs, by omega⟩
    rw [Lib.itoa_nonneg u]
    have := dec_len (u := u) hk (by omega)
    omega
theorem itoa_size {z : Int} {k : Nat} (hk : 0 < k) (b : B k z) : (⟨(itoa z).toArray⟩ : ByteArray).size ≤ 10 * k + 1 := by
  have := itoa_len hk b
  simpa [ByteArray.size] using this

end Go.Proofs.Ythafabkjidifeaa.Rt
