/- Plain arithmetic: the shift before a long division. -/
import Derived.Test.YtginogcdjplhiaaGreatDoorVal2
import Derived.Lib.BitFns
import Derived.Lib.ItoaNum
set_option linter.unusedVariables false
set_option linter.unusedSimpArgs false
namespace Go.Proofs.YtginogcdjplhiaaGreatDoor.Big

theorem lz_top {x : Nat} (h0 : 0 < x) (h1 : x < 4294967296) : Lib.bitLen x ≤ 32 ∧ 1 ≤ Lib.bitLen x ∧ 2147483648 ≤ x * 2 ^ (32 - Lib.bitLen x) ∧ (x + 1) * 2 ^ (32 - Lib.bitLen x) ≤ 4294967296 := by
  have h2 := Lib.bitLen_le x 32 (by omega) h1
  obtain ⟨h3, h4, h5⟩ := Lib.bitLenAux_bounds 64 x (by omega) (by omega)
  have e : Lib.bitLenAux 64 x = Lib.bitLen x := rfl
  rw [e] at h3 h4 h5
  refine ⟨h2, h3, ?_, ?_⟩
  · have : 2 ^ (Lib.bitLen x - 1) * 2 ^ (32 - Lib.bitLen x) ≤ x * 2 ^ (32 - Lib.bitLen x) := Nat.mul_le_mul_right _ h4
    rw [← Nat.pow_add, show Lib.bitLen x - 1 + (32 - Lib.bitLen x) = 31 by omega] at this
    exact this
  · have : (x + 1) * 2 ^ (32 - Lib.bitLen x) ≤ 2 ^ Lib.bitLen x * 2 ^ (32 - Lib.bitLen x) := Nat.mul_le_mul_right _ h5
    rw [← Nat.pow_add, show Lib.bitLen x + (32 - Lib.bitLen x) = 32 by omega] at this
    exact this

section
variable {V n s : Nat}
theorem shl_lt (hn : 1 ≤ n) (hV : V < pw n) (h : (dgt V (n - 1) + 1) * 2 ^ s ≤ 4294967296) : V * 2 ^ s < pw n := by
  have h1 := Nat.lt_div_mul_add (pw_pos (n - 1)) (a := V)
  rw [div_pw hn hV] at h1
  have h2 : (V + 1) * 2 ^ s ≤ (dgt V (n - 1) + 1) * pw (n - 1) * 2 ^ s := Nat.mul_le_mul_right _ (by rw [Nat.succ_mul]; omega)
  have h3 : (dgt V (n - 1) + 1) * pw (n - 1) * 2 ^ s ≤ pw n := by
    rw [show (dgt V (n - 1) + 1) * pw (n - 1) * 2 ^ s = pw (n - 1) * ((dgt V (n - 1) + 1) * 2 ^ s) by ac_rfl]
    have := Nat.mul_le_mul_left (pw (n - 1)) h
    rw [← pw_succ, show n - 1 + 1 = n by omega] at this
    exact this
  have h4 := Nat.two_pow_pos s
  rw [Nat.add_mul, Nat.one_mul] at h2
  omega
theorem shl_top (hn : 1 ≤ n) (hV : V < pw n) (h : (dgt V (n - 1) + 1) * 2 ^ s ≤ 4294967296) (h2 : 2147483648 ≤ dgt V (n - 1) * 2 ^ s) : 2147483648 ≤ dgt (V * 2 ^ s) (n - 1) := by
  rw [← div_pw hn (shl_lt hn hV h)]
  refine Nat.le_trans h2 ?_
  rw [Nat.le_div_iff_mul_le (pw_pos _)]
  have h1 := Nat.div_mul_le_self V (pw (n - 1))
  rw [div_pw hn hV] at h1
  rw [show dgt V (n - 1) * 2 ^ s * pw (n - 1) = dgt V (n - 1) * pw (n - 1) * 2 ^ s by ac_rfl]
  exact Nat.mul_le_mul_right _ h1
end
theorem quo_lt {A B n m : Nat} (hA : A < pw n) (hm : 1 ≤ m) (hmn : m ≤ n) (hB : pw (m - 1) ≤ B) : A / B < pw (n - m + 1) := by
  have hB0 : 0 < B := Nat.lt_of_lt_of_le (pw_pos _) hB
  rw [Nat.div_lt_iff_lt_mul hB0]
  refine Nat.lt_of_lt_of_le hA ?_
  have := Nat.mul_le_mul_left (pw (n - m + 1)) hB
  rw [← pw_add, show n - m + 1 + (m - 1) = n by omega] at this
  exact this
theorem rst_lt_pw {R D j m : Nat} (hD0 : 0 < D) (hD : D < pw m) : rst R D j < pw (m + j) := by
  have h1 := rst_lt (R := R) (j := j) hD0
  have h2 : D * pw j ≤ pw m * pw j := Nat.mul_le_mul_right _ (Nat.le_of_lt hD)
  rw [← pw_add] at h2
  omega
theorem win_pre {R D j m : Nat} (hm : 2 ≤ m) (hD0 : 0 < D) (hD : D < pw m) (ht : 2147483648 ≤ dgt D (m - 1)) : DPre (rst R D (j + 1) / pw j) D m := by
  refine ⟨hm, ?_, ?_, hD, ht⟩
  · rw [Nat.div_lt_iff_lt_mul (pw_pos j), ← pw_add]
    have := rst_lt_pw (R := R) (j := j + 1) hD0 hD
    rwa [show m + 1 + j = m + (j + 1) by omega]
  · rw [Nat.div_lt_iff_lt_mul (pw_pos j)]
    have := rst_lt (R := R) (j := j + 1) hD0
    rwa [pw_succ, ← Nat.mul_assoc, Nat.mul_right_comm, Nat.mul_comm D] at this
theorem cmp_trim {n m X Y : Nat} (hX : X < pw n) (hY : Y < pw m) (tX : n = 0 ∨ pw (n - 1) ≤ X) (tY : m = 0 ∨ pw (m - 1) ≤ Y) : (n < m → X < Y) ∧ (m < n → Y < X) := by
  constructor
  · intro h
    rcases tY with h0 | h0
    · omega
    · exact Nat.lt_of_lt_of_le hX (Nat.le_trans (pw_mono (by omega)) h0)
  · intro h
    rcases tX with h0 | h0
    · omega
    · exact Nat.lt_of_lt_of_le hY (Nat.le_trans (pw_mono (by omega)) h0)

end Go.Proofs.YtginogcdjplhiaaGreatDoor.Big
