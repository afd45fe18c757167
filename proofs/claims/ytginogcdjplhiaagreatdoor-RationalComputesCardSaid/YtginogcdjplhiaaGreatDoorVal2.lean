/- Plain arithmetic: one digit of a long division (Knuth), and the whole of it. -/
import Derived.Test.YtginogcdjplhiaaGreatDoorVal
set_option linter.unusedVariables false
set_option linter.unusedSimpArgs false
namespace Go.Proofs.YtginogcdjplhiaaGreatDoor.Big

theorem div_pw {D n : Nat} (hn : 0 < n) (hD : D < pw n) : D / pw (n - 1) = dgt D (n - 1) := by
  have h := div_step D (n - 1)
  rw [show n - 1 + 1 = n by omega, Nat.div_eq_of_lt hD] at h
  omega
theorem div_pw2 {D n : Nat} (hn : 2 ≤ n) (hD : D < pw n) : D / pw (n - 2) = dgt D (n - 1) * 4294967296 + dgt D (n - 2) := by
  have h := div_step D (n - 2)
  rw [show n - 2 + 1 = n - 1 by omega, div_pw (by omega) hD] at h
  exact h

section
variable {P D n : Nat}
/-- the first guess is no less than the digit -/
theorem guess_ge (hn : 0 < n) (hD : D < pw n) : P / D * dgt D (n - 1) ≤ P / pw (n - 1) := by
  rw [← div_pw hn hD, Nat.le_div_iff_mul_le (pw_pos _), Nat.mul_assoc]
  exact Nat.le_trans (Nat.mul_le_mul_left _ (Nat.div_mul_le_self _ _)) (Nat.div_mul_le_self _ _)
theorem high_lt (hn : 0 < n) (hD : D < pw n) (hP : P < 4294967296 * D) : P / pw (n - 1) < 4294967296 * dgt D (n - 1) + 4294967296 := by
  rw [Nat.div_lt_iff_lt_mul (pw_pos _), ← div_pw hn hD, show 4294967296 * (D / pw (n - 1)) + 4294967296 = 4294967296 * (D / pw (n - 1) + 1) by omega, Nat.mul_assoc]
  have := Nat.lt_div_mul_add (pw_pos (n - 1)) (a := D)
  rw [← Nat.succ_mul] at this
  exact Nat.lt_of_lt_of_le hP (Nat.mul_le_mul_left _ (Nat.le_of_lt this))
/-- too great a guess is seen by three digits -/
theorem guess_gt {g : Nat} (hD0 : 0 < D) (h : P / pw (n - 2) < g * (D / pw (n - 2))) : P / D < g := by
  rcases Nat.lt_or_ge (P / D) g with h1 | h1
  · exact h1
  · exfalso
    have h1 : g ≤ P / D := h1
    rw [Nat.le_div_iff_mul_le hD0] at h1
    have h2 : g * (D / pw (n - 2)) * pw (n - 2) ≤ P := Nat.le_trans (by rw [Nat.mul_assoc]; exact Nat.mul_le_mul_left _ (Nat.div_mul_le_self _ _)) h1
    rw [← Nat.le_div_iff_mul_le (pw_pos _)] at h2
    exact absurd h (Nat.not_lt.2 h2)
/-- a guess that three digits let by is one too great at the most -/
theorem guess_le {g : Nat} (hn : 2 ≤ n) (hDl : pw (n - 1) ≤ D) (hg : g < 4294967296) (h : g * (D / pw (n - 2)) ≤ P / pw (n - 2)) : g ≤ P / D + 1 := by
  have hD0 : 0 < D := Nat.lt_of_lt_of_le (pw_pos _) hDl
  rcases Nat.eq_zero_or_pos g with h0 | h0
  · rw [h0]; exact Nat.zero_le _
  have h1 : g * (D / pw (n - 2)) * pw (n - 2) ≤ P := Nat.le_trans (Nat.mul_le_mul_right _ h) (Nat.div_mul_le_self _ _)
  have h2 : D < D / pw (n - 2) * pw (n - 2) + pw (n - 2) := Nat.lt_div_mul_add (pw_pos _)
  have h3 : g * D ≤ g * (D / pw (n - 2) * pw (n - 2)) + g * pw (n - 2) := by rw [← Nat.mul_add]; exact Nat.mul_le_mul_left _ (Nat.le_of_lt h2)
  have h4 : g * pw (n - 2) < pw (n - 1) := by
    rw [show n - 1 = n - 2 + 1 by omega, pw_succ, Nat.mul_comm]
    exact Nat.mul_lt_mul_of_pos_left hg (pw_pos _)
  rw [← Nat.mul_assoc] at h3
  have h5 : (g - 1) * D ≤ P := by rw [Nat.sub_mul, Nat.one_mul]; omega
  rw [← Nat.le_div_iff_mul_le hD0] at h5
  omega
end

/-- one place of 'P less g times D': s is what is carried, e the new digit -/
theorem ring9 (a p d x g y s s' w e b : Nat) (h1 : a + p * s = g * y + w) (h2 : d + 4294967296 * s' = g * x + s + e) (hb : b = p * 4294967296) :
    a + p * d + b * s' = g * (y + p * x) + (w + p * e) := by
  subst hb
  have : p * (d + 4294967296 * s') = p * (g * x + s + e) := by rw [h2]
  simp only [Nat.mul_add] at this ⊢
  have e1 : p * (4294967296 * s') = p * 4294967296 * s' := by ac_rfl
  have e2 : p * (g * x) = g * (p * x) := by ac_rfl
  omega
theorem eq_of_mod {U V M x y : Nat} (hU : U < M) (hV : V < M) (h : U + M * x = V + M * y) : U = V := by
  have : (U + M * x) % M = (V + M * y) % M := by rw [h]
  rwa [Nat.add_mul_mod_self_left, Nat.add_mul_mod_self_left, Nat.mod_eq_of_lt hU, Nat.mod_eq_of_lt hV] at this
theorem ring10 {P a M A z d g D b B W c C s U : Nat} (h : P + z * (M * d) = g * D + W) (hP : P = a + M * A) (hD : D = b + M * B) (hW : W = c + M * C) (hs : a + M * s = g * b + U) :
    U + M * (A + z * d) = c + M * (s + g * B + C) := by
  subst hP hD hW
  simp only [Nat.mul_add] at h ⊢
  have e1 : z * (M * d) = M * (z * d) := by ac_rfl
  have e2 : g * (M * B) = M * (g * B) := by ac_rfl
  omega
theorem sub_step {P D W g n k z s s' e : Nat} (hk : k ≤ n) (hW : P + z * pw (n + 1) = g * D + W) (h : P % pw k + pw k * s = g * (D % pw k) + W % pw k)
    (he : dgt P k + 4294967296 * s' = g * dgt D k + s + e) (heb : e < 4294967296) :
    e = dgt W k ∧ P % pw (k + 1) + pw (k + 1) * s' = g * (D % pw (k + 1)) + W % pw (k + 1) := by
  have h1 : P % pw (k + 1) + pw (k + 1) * s' = g * (D % pw (k + 1)) + (W % pw k + pw k * e) := by
    rw [mod_succ, mod_succ D]; exact ring9 _ _ _ _ _ _ _ _ _ _ _ h he (pw_succ k)
  obtain ⟨d, hd⟩ : ∃ d, pw (n + 1) = pw (k + 1) * d := ⟨pw (n - k), by rw [← pw_add]; congr 1; omega⟩
  rw [hd] at hW
  have hU : W % pw k + pw k * e < pw (k + 1) := by
    have a1 := mod_le W k
    have a2 : pw k * e ≤ pw k * 4294967295 := Nat.mul_le_mul_left _ (by omega)
    rw [pw_succ]; omega
  have h2 := eq_of_mod hU (mod_le W (k + 1)) (ring10 hW (mod_split P (k + 1)) (mod_split D (k + 1)) (mod_split W (k + 1)) h1)
  refine ⟨?_, by rw [h1, h2]⟩
  rw [mod_succ] at h2
  exact Nat.eq_of_mul_eq_mul_left (pw_pos k) (by omega)

/-- the last place -/
theorem sub_last {P D W g n z s : Nat} (hP : P < pw (n + 1)) (hD : D < pw n) (hWl : W < pw (n + 1)) (hW : P + z * pw (n + 1) = g * D + W) (h : P % pw n + pw n * s = g * (D % pw n) + W % pw n) :
    dgt W n + s = dgt P n + 4294967296 * z := by
  have h1 := mod_split P n
  have h2 := mod_split W n
  have e1 : P / pw n = dgt P n := by have := div_step P n; rw [Nat.div_eq_of_lt hP] at this; omega
  have e2 : W / pw n = dgt W n := by have := div_step W n; rw [Nat.div_eq_of_lt hWl] at this; omega
  rw [e1] at h1
  rw [e2] at h2
  rw [mod_self hD] at h
  have e3 : z * pw (n + 1) = pw n * (4294967296 * z) := by rw [pw_succ]; ac_rfl
  refine Nat.eq_of_mul_eq_mul_left (pw_pos n) ?_
  rw [Nat.mul_add, Nat.mul_add, ← e3]
  omega

/-- what is left, and what is added back -/
theorem left_over {P D g n : Nat} (hP : P < pw (n + 1)) (hD : D < pw n) (hD0 : 0 < D) (hg1 : P / D ≤ g) (hg2 : g ≤ P / D + 1) :
    ∃ z W, P + z * pw (n + 1) = g * D + W ∧ W < pw (n + 1) ∧ ((z = 0 ∧ g = P / D ∧ W = P % D) ∨ (z = 1 ∧ g = P / D + 1 ∧ W + D = P % D + pw (n + 1))) := by
  have h1 := Nat.div_add_mod P D
  rw [Nat.mul_comm] at h1
  have hDn : D ≤ pw (n + 1) := Nat.le_trans (Nat.le_of_lt hD) (pw_mono (by omega))
  rcases Nat.lt_or_ge (P / D) g with h2 | h2
  · have e : g = P / D + 1 := by generalize P / D = q at *; omega
    have hm := Nat.mod_lt P hD0
    refine ⟨1, P % D + pw (n + 1) - D, ?_, ?_, .inr ⟨rfl, e, ?_⟩⟩
    · rw [e, Nat.add_mul, Nat.one_mul, Nat.one_mul]; generalize P % D = r at *; generalize P / D * D = r2 at *; omega
    · generalize P % D = r at *; omega
    · generalize P % D = r at *; omega
  · have e : g = P / D := by generalize P / D = q at *; omega
    exact ⟨0, P % D, by rw [e, Nat.zero_mul, Nat.add_zero]; exact h1.symm, Nat.lt_of_le_of_lt (Nat.mod_le _ _) hP, .inl ⟨rfl, e, rfl⟩⟩

/- the guess -/
structure DPre (P D n : Nat) : Prop where
  n2 : 2 ≤ n
  hP : P < pw (n + 1)
  hPD : P < 4294967296 * D
  hD : D < pw n
  top : 2147483648 ≤ dgt D (n - 1)
theorem DPre.pos {P D n : Nat} (h : DPre P D n) : 0 < D := by
  rcases Nat.eq_zero_or_pos D with h0 | h0
  · have := h.hPD; subst h0; omega
  · exact h0
theorem DPre.high {P D n : Nat} (h : DPre P D n) : P / pw (n - 1) = dgt P n * 4294967296 + dgt P (n - 1) := by
  have h1 := div_step P (n - 1)
  have h2 := h.n2
  rw [show n - 1 + 1 = n by omega, show P / pw n = dgt P n from div_pw (n := n + 1) (by omega) h.hP] at h1
  exact h1
theorem DPre.high3 {P D n : Nat} (h : DPre P D n) : P / pw (n - 2) = (dgt P n * 4294967296 + dgt P (n - 1)) * 4294967296 + dgt P (n - 2) := by
  have h1 := div_step P (n - 2)
  have h2 := h.n2
  rw [show n - 2 + 1 = n - 1 by omega, h.high] at h1
  exact h1
def GI (P D n g l : Nat) : Prop := g * dgt D (n - 1) + l = dgt P n * 4294967296 + dgt P (n - 1) ∧ P / D ≤ g
theorem GI.start {P D n : Nat} (h : DPre P D n) : GI P D n ((dgt P n * 4294967296 + dgt P (n - 1)) / dgt D (n - 1)) ((dgt P n * 4294967296 + dgt P (n - 1)) % dgt D (n - 1)) ∧
    (dgt P n * 4294967296 + dgt P (n - 1)) / dgt D (n - 1) ≤ 4294967297 := by
  have ht := h.top
  have hn := h.n2
  refine ⟨⟨by rw [Nat.mul_comm]; exact Nat.div_add_mod _ _, ?_⟩, ?_⟩
  · rw [Nat.le_div_iff_mul_le (by omega), ← h.high]; exact guess_ge (by omega) h.hD
  · have h1 := high_lt (by omega) h.hD h.hPD
    rw [h.high] at h1
    have h2 : (dgt P n * 4294967296 + dgt P (n - 1)) / dgt D (n - 1) < 4294967298 := by
      rw [Nat.div_lt_iff_lt_mul (by omega)]; omega
    generalize (dgt P n * 4294967296 + dgt P (n - 1)) / dgt D (n - 1) = q at *
    omega
theorem ring11 (g dt l h d2 p2 : Nat) (h1 : g * dt + l = h) : g * (dt * 4294967296 + d2) + l * 4294967296 = h * 4294967296 + g * d2 := by
  subst h1
  rw [Nat.mul_add, Nat.add_mul, ← Nat.mul_assoc]; omega
theorem ab1 (u L U3 u2 p : Nat) (h1 : u + L = U3 + u2) (h2 : L + p < u2) : U3 + p < u := by omega
theorem ab2 (u L U3 u2 p : Nat) (h1 : u + L = U3 + u2) (h2 : u2 ≤ L + p) : u ≤ U3 + p := by omega
theorem GI.dec {P D n g l : Nat} (h : DPre P D n) (hi : GI P D n g l) (hb : 4294967296 ≤ g ∨ l * 4294967296 + dgt P (n - 2) < g * dgt D (n - 2)) :
    GI P D n (g - 1) (l + dgt D (n - 1)) ∧ 1 ≤ g := by
  obtain ⟨h1, h2⟩ := hi
  have hlt : P / D < g := by
    rcases hb with hb | hb
    · have : P / D < 4294967296 := by rw [Nat.div_lt_iff_lt_mul h.pos]; exact h.hPD
      exact Nat.lt_of_lt_of_le this hb
    · refine guess_gt (n := n) h.pos ?_
      rw [h.high3, div_pw2 h.n2 h.hD]
      have := ring11 g _ l _ (dgt D (n - 2)) (dgt P (n - 2)) h1
      exact ab1 _ _ _ _ _ this hb
  have hg : 1 ≤ g := Nat.lt_of_le_of_lt (Nat.zero_le _) hlt
  refine ⟨⟨?_, Nat.le_sub_one_of_lt hlt⟩, hg⟩
  rw [← h1, Nat.sub_mul, Nat.one_mul]
  have : dgt D (n - 1) ≤ g * dgt D (n - 1) := Nat.le_mul_of_pos_left _ hg
  omega
theorem GI.out {P D n g l : Nat} (h : DPre P D n) (hi : GI P D n g l) (hb : 4294967296 ≤ l ∨ (g < 4294967296 ∧ g * dgt D (n - 2) ≤ l * 4294967296 + dgt P (n - 2))) :
    g < 4294967296 ∧ P / D ≤ g ∧ g ≤ P / D + 1 := by
  obtain ⟨h1, h2⟩ := hi
  have hn := h.n2
  have hg : g < 4294967296 := by
    rcases hb with hb | hb
    · have h3 := high_lt (by omega) h.hD h.hPD
      rw [h.high, ← h1] at h3
      have h4 : g * dgt D (n - 1) < 4294967296 * dgt D (n - 1) := by omega
      exact Nat.lt_of_mul_lt_mul_right h4
    · exact hb.1
  refine ⟨hg, h2, guess_le hn ?_ hg ?_⟩
  · have := h.top
    exact le_of_dgt (by omega)
  · rw [h.high3, div_pw2 hn h.hD]
    have h3 := ring11 g _ l _ (dgt D (n - 2)) (dgt P (n - 2)) h1
    have h4 : g * dgt D (n - 2) ≤ l * 4294967296 + dgt P (n - 2) := by
      rcases hb with hb | hb
      · have : g * dgt D (n - 2) ≤ 4294967295 * 4294967296 := Nat.mul_le_mul (by omega) (Nat.le_of_lt (dgt_lt _ _))
        omega
      · exact hb.2
    exact ab2 _ _ _ _ _ h3 h4

/- the whole division -/
/-- what is left of R when the quotient's digits from j on have been taken away -/
def rst (R D j : Nat) : Nat := D * (R / D % pw j) + R % D
theorem rst_full {R D c : Nat} (h : R / D < pw c) : rst R D c = R := by unfold rst; rw [mod_self h]; exact Nat.div_add_mod R D
theorem rst_zero (R D : Nat) : rst R D 0 = R % D := by unfold rst; rw [pw_zero, Nat.mod_one]; omega
theorem rst_lt {R D j : Nat} (hD : 0 < D) : rst R D j < D * pw j := by
  unfold rst
  have h1 := mod_le (R / D) j
  have h2 := Nat.mod_lt R hD
  have h3 : D * (R / D % pw j + 1) ≤ D * pw j := Nat.mul_le_mul_left _ h1
  rw [Nat.mul_add] at h3; omega
theorem rst_succ (R D j : Nat) : rst R D (j + 1) = rst R D j + pw j * (dgt (R / D) j * D) := by
  unfold rst
  rw [mod_succ, Nat.mul_add, show D * (pw j * dgt (R / D) j) = pw j * (dgt (R / D) j * D) by ac_rfl]; omega
theorem rst_div (R D j : Nat) : rst R D (j + 1) / pw j = rst R D j / pw j + dgt (R / D) j * D := by
  rw [rst_succ, Nat.add_mul_div_left _ _ (pw_pos j)]
theorem rst_quo {R D j : Nat} (hD : 0 < D) : rst R D (j + 1) / pw j / D = dgt (R / D) j := by
  rw [rst_div, Nat.add_mul_div_right _ _ hD, Nat.div_eq_of_lt, Nat.zero_add]
  rw [Nat.div_lt_iff_lt_mul (pw_pos j)]; exact rst_lt hD
theorem rst_rem {R D j : Nat} (hD : 0 < D) : rst R D (j + 1) / pw j % D = rst R D j / pw j := by
  rw [rst_div, Nat.add_mul_mod_self_right, Nat.mod_eq_of_lt]
  rw [Nat.div_lt_iff_lt_mul (pw_pos j)]; exact rst_lt hD
theorem dgt_div (V j p : Nat) : dgt (V / pw j) p = dgt V (j + p) := by
  unfold dgt; rw [Nat.div_div_eq_div_mul, ← pw_add]
theorem rst_low {R D j p : Nat} (h : p < j) : dgt (rst R D (j + 1)) p = dgt (rst R D j) p := by
  obtain ⟨k, rfl⟩ : ∃ k, j = p + 1 + k := ⟨j - p - 1, by omega⟩
  rw [rst_succ, pw_add, Nat.mul_assoc, dgt_add_mul]
theorem scale_div {A B s : Nat} : A * 2 ^ s / (B * 2 ^ s) = A / B := Nat.mul_div_mul_right A B (Nat.two_pow_pos s)
theorem scale_mod {A B s : Nat} : A * 2 ^ s % (B * 2 ^ s) / 2 ^ s = A % B := by
  rw [Nat.mul_mod_mul_right, Nat.mul_div_cancel _ (Nat.two_pow_pos s)]

end Go.Proofs.YtginogcdjplhiaaGreatDoor.Big
