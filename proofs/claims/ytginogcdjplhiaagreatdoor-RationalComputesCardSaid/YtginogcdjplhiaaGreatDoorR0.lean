/- Plain arithmetic on digits to the base 10: no program in sight. -/
import Derived.Below
set_option linter.unusedVariables false
set_option linter.unusedSimpArgs false
namespace Go.Proofs.YtginogcdjplhiaaGreatDoor.Ten

def pt (n : Nat) : Nat := 10 ^ n
theorem pt_zero : pt 0 = 1 := rfl
theorem pt_succ (n : Nat) : pt (n + 1) = pt n * 10 := Nat.pow_succ ..
theorem pt_pos (n : Nat) : 0 < pt n := Nat.pow_pos (by omega)
theorem pt_add (a b : Nat) : pt (a + b) = pt a * pt b := Nat.pow_add ..
theorem pt_mono {a b : Nat} (h : a ≤ b) : pt a ≤ pt b := Nat.pow_le_pow_right (by omega) h
theorem pt_lt {a b : Nat} (h : a < b) : pt a < pt b := Nat.pow_lt_pow_right (by omega) h
theorem pt_one : pt 1 = 10 := rfl
theorem le_of_pt {n L V : Nat} (h : pt (n - 1) ≤ V) (hV : V < pt L) : n ≤ L := by
  rcases Nat.lt_or_ge L n with h1 | h1
  · have := pt_mono (show L ≤ n - 1 by omega); omega
  · exact h1

/-- digit number j of V -/
def dg (V j : Nat) : Nat := V / pt j % 10
theorem dg_lt (V j : Nat) : dg V j < 10 := Nat.mod_lt _ (by omega)
theorem mod_succ (V j : Nat) : V % pt (j + 1) = V % pt j + pt j * dg V j := by
  rw [pt_succ]; exact Nat.mod_mul
theorem div_step (V j : Nat) : V / pt j = V / pt (j + 1) * 10 + dg V j := by
  unfold dg; rw [pt_succ, ← Nat.div_div_eq_div_mul]; omega
theorem dg_zero_of_lt {V j : Nat} (h : V < pt j) : dg V j = 0 := by
  unfold dg; rw [Nat.div_eq_of_lt h]
theorem lt_of_dg_zero {V n : Nat} (h : V < pt (n + 1)) (hd : dg V n = 0) : V < pt n := by
  have h1 := div_step V n
  have h2 : V / pt (n + 1) = 0 := Nat.div_eq_of_lt h
  rw [h2, hd] at h1
  have := (Nat.div_eq_zero_iff (a := V) (b := pt n)).1 (by omega)
  have := pt_pos n
  omega
theorem le_of_dg {V n : Nat} (hd : dg V n ≠ 0) : pt n ≤ V := by
  rcases Nat.lt_or_ge V (pt n) with h | h
  · exact absurd (dg_zero_of_lt h) hd
  · exact h
theorem dg_mod {V n j : Nat} (h : j < n) : dg (V % pt n) j = dg V j := by
  unfold dg
  obtain ⟨k, rfl⟩ : ∃ k, n = j + (k + 1) := ⟨n - j - 1, by omega⟩
  rw [pt_add, pt_succ, Nat.mul_comm (pt k), Nat.mod_mul_right_div_self, Nat.mod_mul_right_mod]
theorem mod_self {V n : Nat} (h : V < pt n) : V % pt n = V := Nat.mod_eq_of_lt h
theorem mod_le (V n : Nat) : V % pt n < pt n := Nat.mod_lt _ (pt_pos n)

/-- equal digits, equal numbers -/
theorem eq_of_dg {V W : Nat} (n : Nat) (hV : V < pt n) (hW : W < pt n) (h : ∀ j, j < n → dg V j = dg W j) : V = W := by
  have : ∀ m, m ≤ n → V % pt m = W % pt m := by
    intro m
    induction m with
    | zero => intro _; simp [pt_zero, Nat.mod_one]
    | succ m ih => intro hm; rw [mod_succ, mod_succ, ih (by omega), h m (by omega)]
  have := this n (Nat.le_refl _)
  rwa [mod_self hV, mod_self hW] at this

/-- what is compared from the top -/
theorem lt_of_top {V W i : Nat} (hd : V / pt (i + 1) = W / pt (i + 1)) (h : dg V i < dg W i) : V < W := by
  have h1 := div_step V i
  have h2 := div_step W i
  rw [hd] at h1
  have h3 : V / pt i < W / pt i := by omega
  exact Nat.lt_of_div_lt_div h3
theorem div_of_top {V W i : Nat} (hd : V / pt (i + 1) = W / pt (i + 1)) (h : dg V i = dg W i) : V / pt i = W / pt i := by
  have h1 := div_step V i
  have h2 := div_step W i
  rw [hd, h] at h1; omega

/-- one step of adding from the bottom: A is what has been added, c its part from place k on -/
theorem acc_div {A k t : Nat} : (A + pt k * t) / pt (k + 1) = (A / pt k + t) / 10 := by
  rw [pt_succ, ← Nat.div_div_eq_div_mul, Nat.add_mul_div_left _ _ (pt_pos k)]
theorem acc_dg {A k t : Nat} : dg (A + pt k * t) k = (A / pt k + t) % 10 := by
  unfold dg; rw [Nat.add_mul_div_left _ _ (pt_pos k)]
theorem dg_congr {V W k : Nat} (h : V % pt (k + 1) = W % pt (k + 1)) : dg V k = dg W k := by
  rw [← dg_mod (V := V) (Nat.lt_succ_self k), ← dg_mod (V := W) (Nat.lt_succ_self k), h]
theorem dg_add_mul (V W k : Nat) : dg (V + pt (k + 1) * W) k = dg V k := dg_congr (by rw [Nat.add_mul_mod_self_left])
theorem mod_split (V n : Nat) : V = V % pt n + pt n * (V / pt n) := (Nat.mod_add_div V (pt n)).symm

theorem ring1 {X Y a b p q dx dy s t : Nat} (h1 : X = a + p * dx + q * s) (h2 : Y = b + p * dy + q * t) : X + Y = ((a + b) + p * (dx + dy)) + q * (s + t) := by subst h1 h2; grind
theorem ring2 {X a p q dx s f m : Nat} (h1 : X = a + p * dx + q * s) : X * f + m = ((m + f * a) + p * (dx * f)) + q * (s * f) := by subst h1; grind
theorem ring3 (a b p x y : Nat) : a + p * x + (b + p * y) = (a + b) + p * (x + y) := by grind
theorem ring4 (m f a p d : Nat) : m + f * (a + p * d) = (m + f * a) + p * (d * f) := by grind

/- the sum -/
def sumc (X Y i : Nat) : Nat := (X % pt i + Y % pt i) / pt i
theorem sumc_zero (X Y : Nat) : sumc X Y 0 = 0 := by simp [sumc, pt_zero, Nat.mod_one]
theorem sumc_succ (X Y i : Nat) : sumc X Y (i + 1) = (dg X i + dg Y i + sumc X Y i) / 10 := by
  unfold sumc
  rw [mod_succ, mod_succ, ring3, acc_div]
  congr 1; omega
theorem sum_dg (X Y i : Nat) : dg (X + Y) i = (dg X i + dg Y i + sumc X Y i) % 10 := by
  have : (X + Y) = ((X % pt i + Y % pt i) + pt i * (dg X i + dg Y i)) + pt (i + 1) * (X / pt (i + 1) + Y / pt (i + 1)) := by
    have h1 := mod_split X (i + 1)
    have h2 := mod_split Y (i + 1)
    rw [mod_succ] at h1 h2
    exact ring1 h1 h2
  rw [this, dg_add_mul, acc_dg]
  unfold sumc; congr 1; omega
theorem sumc_le (X Y i : Nat) : sumc X Y i ≤ 1 := by
  unfold sumc
  have h1 := mod_le X i
  have h2 := mod_le Y i
  have := (Nat.div_lt_iff_lt_mul (pt_pos i) (x := X % pt i + Y % pt i) (y := 2)).2 (by omega)
  omega
theorem sumc_full {X Y n : Nat} (hX : X < pt n) (hY : Y < pt n) : sumc X Y n = dg (X + Y) n := by
  have := sumc_le X Y n
  unfold sumc at *; unfold dg; rw [mod_self hX, mod_self hY] at *
  generalize (X + Y) / pt n = q at *
  omega

/- the difference: the borrow -/
def difc (X Y i : Nat) : Nat := if X % pt i < Y % pt i then 1 else 0
theorem difc_zero (X Y : Nat) : difc X Y 0 = 0 := by simp [difc, pt_zero, Nat.mod_one]
theorem difc_le (X Y i : Nat) : difc X Y i ≤ 1 := by unfold difc; split <;> omega
theorem dif_step (X Y i : Nat) (h : Y ≤ X) :
    (dg X i < dg Y i + difc X Y i → difc X Y (i + 1) = 1 ∧ dg (X - Y) i + dg Y i + difc X Y i = dg X i + 10) ∧
    (dg Y i + difc X Y i ≤ dg X i → difc X Y (i + 1) = 0 ∧ dg (X - Y) i + dg Y i + difc X Y i = dg X i) := by
  -- the sum of X - Y and Y
  have hs := sum_dg (X - Y) Y i
  have hc := sumc_succ (X - Y) Y i
  have e : X - Y + Y = X := by omega
  rw [e] at hs
  have key : ∀ k, difc X Y k = sumc (X - Y) Y k := by
    intro k
    unfold difc sumc
    have h1 : X % pt k = ((X - Y) % pt k + Y % pt k) % pt k := by rw [← Nat.add_mod, e]
    have a1 := mod_le (X - Y) k
    have a2 := mod_le Y k
    rcases Nat.lt_or_ge ((X - Y) % pt k + Y % pt k) (pt k) with hl | hl
    · rw [Nat.mod_eq_of_lt hl] at h1
      rw [Nat.div_eq_of_lt hl, if_neg (by omega)]
    · have h2 : ((X - Y) % pt k + Y % pt k) % pt k = (X - Y) % pt k + Y % pt k - pt k := by
        rw [Nat.mod_eq_sub_mod hl, Nat.mod_eq_of_lt (by omega)]
      have h3 : ((X - Y) % pt k + Y % pt k) / pt k = 1 := by
        have u := sumc_le (X - Y) Y k
        unfold sumc at u
        have := (Nat.le_div_iff_mul_le (pt_pos k) (x := 1) (y := (X - Y) % pt k + Y % pt k)).2 (by omega)
        omega
      rw [h3, if_pos (by omega)]
  rw [key i, key (i + 1), hc, hs]
  have b1 := dg_lt (X - Y) i
  have b2 := dg_lt Y i
  have b3 := sumc_le (X - Y) Y i
  constructor <;> intro h <;> omega

/- digits times a factor, plus more -/
def prow (X Y i : Nat) : Nat := X % pt i * Y
def mulA (X Y i j : Nat) : Nat := prow X Y i % pt (i + j) + dg X i * pt i * (Y % pt j)
def mulc (X Y i j : Nat) : Nat := mulA X Y i j / pt (i + j)
theorem prow_zero (X Y : Nat) : prow X Y 0 = 0 := by simp [prow, pt_zero, Nat.mod_one]
theorem ring6 (a p d y : Nat) : (a + p * d) * y = a * y + d * p * y := by rw [Nat.add_mul, Nat.mul_comm p d]
theorem prow_succ (X Y i : Nat) : prow X Y (i + 1) = prow X Y i + dg X i * pt i * Y := by
  unfold prow; rw [mod_succ, ring6]
theorem prow_lt {X Y i m : Nat} (hY : Y < pt m) : prow X Y i < pt (i + m) := by
  unfold prow
  rw [pt_add]
  have h1 := mod_le X i
  have h2 : X % pt i * Y ≤ X % pt i * pt m := Nat.mul_le_mul_left _ (by omega)
  have h3 : (X % pt i + 1) * pt m ≤ pt i * pt m := Nat.mul_le_mul_right _ (by omega)
  rw [Nat.add_mul] at h3
  have := pt_pos m
  omega
theorem prow_full {X Y n : Nat} (hX : X < pt n) : prow X Y n = X * Y := by unfold prow; rw [mod_self hX]
theorem ring7 (a p q s d e t : Nat) : a + p * q * d + e * p * (t + q * s) = (a + e * p * t) + p * q * (d + e * s) := by grind
theorem mulA_succ (X Y i j : Nat) : mulA X Y i (j + 1) = mulA X Y i j + pt (i + j) * (dg (prow X Y i) (i + j) + dg X i * dg Y j) := by
  unfold mulA
  rw [← Nat.add_assoc, mod_succ, mod_succ, pt_add i j, ring7]
theorem mulc_zero (X Y i : Nat) : mulc X Y i 0 = 0 := by
  unfold mulc mulA; rw [pt_zero, Nat.mod_one, Nat.mul_zero, Nat.add_zero, Nat.add_zero]; exact Nat.div_eq_of_lt (mod_le _ _)
theorem mulc_succ (X Y i j : Nat) : mulc X Y i (j + 1) = (dg X i * dg Y j + dg (prow X Y i) (i + j) + mulc X Y i j) / 10 := by
  unfold mulc
  rw [mulA_succ, ← Nat.add_assoc, acc_div]
  congr 1; omega
theorem ring8 (a p q s y z e b : Nat) (h1 : a = b + p * q * z) : a + e * p * (y + q * s) = (b + e * p * y) + p * q * (z + e * s) := by subst h1; grind
theorem mul_dg (X Y i j : Nat) : dg (prow X Y (i + 1)) (i + j) = (dg X i * dg Y j + dg (prow X Y i) (i + j) + mulc X Y i j) % 10 := by
  have h1 := mod_split (prow X Y i) (i + (j + 1))
  have h2 := mod_split Y (j + 1)
  have h3 : prow X Y (i + 1) = mulA X Y i (j + 1) + pt (i + j + 1) * (prow X Y i / pt (i + (j + 1)) + dg X i * (Y / pt (j + 1))) := by
    rw [prow_succ]
    unfold mulA
    rw [Nat.add_assoc i j 1]
    rw [pt_add i (j + 1)] at h1 ⊢
    conv => lhs; arg 2; rw [h2]
    exact ring8 _ _ _ _ _ _ _ _ h1
  rw [h3, dg_add_mul, mulA_succ, acc_dg]
  unfold mulc
  congr 1; omega
theorem mulA_lt (X Y i j : Nat) : mulA X Y i j < pt (i + j) * 10 := by
  unfold mulA
  have h1 := mod_le (prow X Y i) (i + j)
  have h2 := mod_le Y j
  have h3 : dg X i * pt i * (Y % pt j) ≤ 9 * pt i * pt j := Nat.mul_le_mul (Nat.mul_le_mul_right _ (by have := dg_lt X i; omega)) (by omega)
  rw [Nat.mul_assoc 9, ← pt_add] at h3
  omega
theorem mulc_lt (X Y i j : Nat) : mulc X Y i j < 10 := by
  unfold mulc
  rw [Nat.div_lt_iff_lt_mul (pt_pos _), Nat.mul_comm]
  exact mulA_lt X Y i j
theorem mulc_full {X Y i m : Nat} (hY : Y < pt m) : mulc X Y i m = dg (prow X Y (i + 1)) (i + m) := by
  have h1 := mulc_lt X Y i m
  have h2 : mulA X Y i m = prow X Y (i + 1) := by
    unfold mulA
    rw [mod_self (prow_lt hY), mod_self hY, prow_succ]
  unfold mulc at *
  unfold dg
  rw [h2] at h1 ⊢
  exact (Nat.mod_eq_of_lt h1).symm
theorem prow_high {X Y i m p : Nat} (hY : Y < pt m) (hp : i + m < p) : dg (prow X Y i) p = dg (prow X Y (i + 1)) p := by
  rw [dg_zero_of_lt (Nat.lt_of_lt_of_le (prow_lt (X := X) (i := i) hY) (pt_mono (by omega))),
    dg_zero_of_lt (Nat.lt_of_lt_of_le (prow_lt (X := X) (i := i + 1) hY) (pt_mono (by omega)))]
theorem mul_bound {a b c d : Nat} (ha : a < 10) (hb : b < 10) (hc : c < 10) (hd : d < 10) : a * b + c + d < 100 := by
  have : a * b ≤ 9 * 9 := Nat.mul_le_mul (by omega) (by omega)
  omega
theorem mul_lt_pt {X Y n m : Nat} (hX : X < pt n) (hY : Y < pt m) : X * Y < pt (n + m) := by
  rw [← prow_full (Y := Y) hX]; exact prow_lt hY

end Go.Proofs.YtginogcdjplhiaaGreatDoor.Ten
