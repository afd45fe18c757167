/- Plain arithmetic on digits to the base 2^32: no program in sight. Plain arithmetic: one digit of a long division (Knuth), and the whole of it. Plain arithmetic: the shift before a long division. -/
import Derived.Below
import Derived.Lib.BitFns
import Derived.Lib.ItoaNum
set_option linter.unusedVariables false
set_option linter.unusedSimpArgs false
namespace Go.Proofs.YtljncdcjkdgkeaaGreatDoor.Big

def pw (n : Nat) : Nat := 4294967296 ^ n
theorem pw_zero : pw 0 = 1 := rfl
theorem pw_succ (n : Nat) : pw (n + 1) = pw n * 4294967296 := Nat.pow_succ ..
theorem pw_pos (n : Nat) : 0 < pw n := Nat.pow_pos (by omega)
theorem pw_add (a b : Nat) : pw (a + b) = pw a * pw b := Nat.pow_add ..
theorem pw_mono {a b : Nat} (h : a ≤ b) : pw a ≤ pw b := Nat.pow_le_pow_right (by omega) h
theorem pw_lt {a b : Nat} (h : a < b) : pw a < pw b := Nat.pow_lt_pow_right (by omega) h
theorem pw_one : pw 1 = 4294967296 := rfl
theorem le_of_pw {n L V : Nat} (h : pw (n - 1) ≤ V) (hV : V < pw L) : n ≤ L := by
  rcases Nat.lt_or_ge L n with h1 | h1
  · have := pw_mono (show L ≤ n - 1 by omega); omega
  · exact h1

/-- digit number j of V -/
def dgt (V j : Nat) : Nat := V / pw j % 4294967296
theorem dgt_lt (V j : Nat) : dgt V j < 4294967296 := Nat.mod_lt _ (by omega)
theorem mod_succ (V j : Nat) : V % pw (j + 1) = V % pw j + pw j * dgt V j := by
  rw [pw_succ]; exact Nat.mod_mul
theorem div_step (V j : Nat) : V / pw j = V / pw (j + 1) * 4294967296 + dgt V j := by
  unfold dgt; rw [pw_succ, ← Nat.div_div_eq_div_mul]; omega
theorem dgt_zero_of_lt {V j : Nat} (h : V < pw j) : dgt V j = 0 := by
  unfold dgt; rw [Nat.div_eq_of_lt h]
theorem lt_of_dgt_zero {V n : Nat} (h : V < pw (n + 1)) (hd : dgt V n = 0) : V < pw n := by
  have h1 := div_step V n
  have h2 : V / pw (n + 1) = 0 := Nat.div_eq_of_lt h
  rw [h2, hd] at h1
  have := (Nat.div_eq_zero_iff (a := V) (b := pw n)).1 (by omega)
  have := pw_pos n
  omega
theorem le_of_dgt {V n : Nat} (hd : dgt V n ≠ 0) : pw n ≤ V := by
  rcases Nat.lt_or_ge V (pw n) with h | h
  · exact absurd (dgt_zero_of_lt h) hd
  · exact h
theorem dgt_mod {V n j : Nat} (h : j < n) : dgt (V % pw n) j = dgt V j := by
  unfold dgt
  obtain ⟨k, rfl⟩ : ∃ k, n = j + (k + 1) := ⟨n - j - 1, by omega⟩
  rw [pw_add, pw_succ, Nat.mul_comm (pw k), Nat.mod_mul_right_div_self, Nat.mod_mul_right_mod]
theorem mod_self {V n : Nat} (h : V < pw n) : V % pw n = V := Nat.mod_eq_of_lt h
theorem mod_le (V n : Nat) : V % pw n < pw n := Nat.mod_lt _ (pw_pos n)

/-- equal digits, equal numbers -/
theorem eq_of_dgt {V W : Nat} (n : Nat) (hV : V < pw n) (hW : W < pw n) (h : ∀ j, j < n → dgt V j = dgt W j) : V = W := by
  have : ∀ m, m ≤ n → V % pw m = W % pw m := by
    intro m
    induction m with
    | zero => intro _; simp [pw_zero, Nat.mod_one]
    | succ m ih => intro hm; rw [mod_succ, mod_succ, ih (by omega), h m (by omega)]
  have := this n (Nat.le_refl _)
  rwa [mod_self hV, mod_self hW] at this

/-- what is compared from the top -/
theorem lt_of_top {V W i : Nat} (hd : V / pw (i + 1) = W / pw (i + 1)) (h : dgt V i < dgt W i) : V < W := by
  have h1 := div_step V i
  have h2 := div_step W i
  rw [hd] at h1
  have h3 : V / pw i < W / pw i := by omega
  exact Nat.lt_of_div_lt_div h3
theorem div_of_top {V W i : Nat} (hd : V / pw (i + 1) = W / pw (i + 1)) (h : dgt V i = dgt W i) : V / pw i = W / pw i := by
  have h1 := div_step V i
  have h2 := div_step W i
  rw [hd, h] at h1; omega

/-- one step of adding from the bottom: A is what has been added, c its part from place k on -/
theorem acc_div {A k t : Nat} : (A + pw k * t) / pw (k + 1) = (A / pw k + t) / 4294967296 := by
  rw [pw_succ, ← Nat.div_div_eq_div_mul, Nat.add_mul_div_left _ _ (pw_pos k)]
theorem acc_dgt {A k t : Nat} : dgt (A + pw k * t) k = (A / pw k + t) % 4294967296 := by
  unfold dgt; rw [Nat.add_mul_div_left _ _ (pw_pos k)]
theorem dgt_congr {V W k : Nat} (h : V % pw (k + 1) = W % pw (k + 1)) : dgt V k = dgt W k := by
  rw [← dgt_mod (V := V) (Nat.lt_succ_self k), ← dgt_mod (V := W) (Nat.lt_succ_self k), h]
theorem dgt_add_mul (V W k : Nat) : dgt (V + pw (k + 1) * W) k = dgt V k := dgt_congr (by rw [Nat.add_mul_mod_self_left])
theorem mod_split (V n : Nat) : V = V % pw n + pw n * (V / pw n) := (Nat.mod_add_div V (pw n)).symm

theorem ring1 {X Y a b p q dx dy s t : Nat} (h1 : X = a + p * dx + q * s) (h2 : Y = b + p * dy + q * t) : X + Y = ((a + b) + p * (dx + dy)) + q * (s + t) := by subst h1 h2; grind
theorem ring2 {X a p q dx s f m : Nat} (h1 : X = a + p * dx + q * s) : X * f + m = ((m + f * a) + p * (dx * f)) + q * (s * f) := by subst h1; grind
theorem ring3 (a b p x y : Nat) : a + p * x + (b + p * y) = (a + b) + p * (x + y) := by grind
theorem ring4 (m f a p d : Nat) : m + f * (a + p * d) = (m + f * a) + p * (d * f) := by grind

/- the sum -/
def sumc (X Y i : Nat) : Nat := (X % pw i + Y % pw i) / pw i
theorem sumc_zero (X Y : Nat) : sumc X Y 0 = 0 := by simp [sumc, pw_zero, Nat.mod_one]
theorem sumc_succ (X Y i : Nat) : sumc X Y (i + 1) = (dgt X i + dgt Y i + sumc X Y i) / 4294967296 := by
  unfold sumc
  rw [mod_succ, mod_succ, ring3, acc_div]
  congr 1; omega
theorem sum_dgt (X Y i : Nat) : dgt (X + Y) i = (dgt X i + dgt Y i + sumc X Y i) % 4294967296 := by
  have : (X + Y) = ((X % pw i + Y % pw i) + pw i * (dgt X i + dgt Y i)) + pw (i + 1) * (X / pw (i + 1) + Y / pw (i + 1)) := by
    have h1 := mod_split X (i + 1)
    have h2 := mod_split Y (i + 1)
    rw [mod_succ] at h1 h2
    exact ring1 h1 h2
  rw [this, dgt_add_mul, acc_dgt]
  unfold sumc; congr 1; omega
theorem sumc_le (X Y i : Nat) : sumc X Y i ≤ 1 := by
  unfold sumc
  have h1 := mod_le X i
  have h2 := mod_le Y i
  have := (Nat.div_lt_iff_lt_mul (pw_pos i) (x := X % pw i + Y % pw i) (y := 2)).2 (by omega)
  omega
theorem sumc_full {X Y n : Nat} (hX : X < pw n) (hY : Y < pw n) : sumc X Y n = dgt (X + Y) n := by
  have := sumc_le X Y n
  unfold sumc at *; unfold dgt; rw [mod_self hX, mod_self hY] at *
  generalize (X + Y) / pw n = q at *
  omega

/- the difference: the borrow -/
def difc (X Y i : Nat) : Nat := if X % pw i < Y % pw i then 1 else 0
theorem difc_zero (X Y : Nat) : difc X Y 0 = 0 := by simp [difc, pw_zero, Nat.mod_one]
theorem difc_le (X Y i : Nat) : difc X Y i ≤ 1 := by unfold difc; split <;> omega
theorem dif_step (X Y i : Nat) (h : Y ≤ X) :
    (dgt X i < dgt Y i + difc X Y i → difc X Y (i + 1) = 1 ∧ dgt (X - Y) i + dgt Y i + difc X Y i = dgt X i + 4294967296) ∧
    (dgt Y i + difc X Y i ≤ dgt X i → difc X Y (i + 1) = 0 ∧ dgt (X - Y) i + dgt Y i + difc X Y i = dgt X i) := by
  -- the sum of X - Y and Y
  have hs := sum_dgt (X - Y) Y i
  have hc := sumc_succ (X - Y) Y i
  have e : X - Y + Y = X := by omega
  rw [e] at hs
  have key : ∀ k, difc X Y k = sumc (X - Y) Y k := by
    intro k
    unfold difc sumc
    have h1 : X % pw k = ((X - Y) % pw k + Y % pw k) % pw k := by rw [← Nat.add_mod, e]
    have a1 := mod_le (X - Y) k
    have a2 := mod_le Y k
    rcases Nat.lt_or_ge ((X - Y) % pw k + Y % pw k) (pw k) with hl | hl
    · rw [Nat.mod_eq_of_lt hl] at h1
      rw [Nat.div_eq_of_lt hl, if_neg (by omega)]
    · have h2 : ((X - Y) % pw k + Y % pw k) % pw k = (X - Y) % pw k + Y % pw k - pw k := by
        rw [Nat.mod_eq_sub_mod hl, Nat.mod_eq_of_lt (by omega)]
      have h3 : ((X - Y) % pw k + Y % pw k) / pw k = 1 := by
        have u := sumc_le (X - Y) Y k
        unfold sumc at u
        have := (Nat.le_div_iff_mul_le (pw_pos k) (x := 1) (y := (X - Y) % pw k + Y % pw k)).2 (by omega)
        omega
      rw [h3, if_pos (by omega)]
  rw [key i, key (i + 1), hc, hs]
  have b1 := dgt_lt (X - Y) i
  have b2 := dgt_lt Y i
  have b3 := sumc_le (X - Y) Y i
  constructor <;> intro h <;> omega

/- digits times a factor, plus more -/
def scac (X f m i : Nat) : Nat := (m + f * (X % pw i)) / pw i
theorem scac_zero (X f m : Nat) : scac X f m 0 = m := by simp [scac, pw_zero, Nat.mod_one]
theorem scac_succ (X f m i : Nat) : scac X f m (i + 1) = (dgt X i * f + scac X f m i) / 4294967296 := by
  unfold scac
  rw [mod_succ, ring4, acc_div]
  congr 1; omega
theorem sca_dgt (X f m i : Nat) : dgt (X * f + m) i = (dgt X i * f + scac X f m i) % 4294967296 := by
  have : X * f + m = ((m + f * (X % pw i)) + pw i * (dgt X i * f)) + pw (i + 1) * (X / pw (i + 1) * f) := by
    have h1 := mod_split X (i + 1)
    rw [mod_succ] at h1
    exact ring2 h1
  rw [this, dgt_add_mul, acc_dgt]
  unfold scac; congr 1; omega
theorem scac_lt (X f m i : Nat) (hf : 0 < f) (hm : m < f) : scac X f m i < f := by
  unfold scac
  rw [Nat.div_lt_iff_lt_mul (pw_pos i)]
  have h1 := mod_le X i
  have h2 : f * (X % pw i) + f ≤ f * pw i := by
    have : f * (X % pw i + 1) ≤ f * pw i := Nat.mul_le_mul_left _ (by omega)
    rwa [Nat.mul_add, Nat.mul_one] at this
  omega
theorem scac_full {X f m n : Nat} (hX : X < pw n) (h : X * f + m < pw (n + 1)) : scac X f m n = dgt (X * f + m) n := by
  unfold scac dgt
  rw [mod_self hX, Nat.add_comm m, Nat.mul_comm f X]
  have : (X * f + m) / pw n < 4294967296 := by
    rw [Nat.div_lt_iff_lt_mul (pw_pos n)]; rw [pw_succ] at h; omega
  generalize (X * f + m) / pw n = q at *
  omega

/- division by one small number, from the top -/
theorem div_comm3 (X a b : Nat) : X / a / b = X / b / a := by rw [Nat.div_div_eq_div_mul, Nat.div_div_eq_div_mul, Nat.mul_comm]
theorem ring5 (b q r d : Nat) : (b * q + r) * 4294967296 + d = (r * 4294967296 + d) + b * (q * 4294967296) := by
  rw [Nat.add_mul, Nat.mul_assoc]; omega
theorem dvs_lt {r d b : Nat} (hr : r < b) (hd : d < 4294967296) : (r * 4294967296 + d) / b < 4294967296 := by
  rw [Nat.div_lt_iff_lt_mul (by omega)]
  have : (r + 1) * 4294967296 ≤ b * 4294967296 := Nat.mul_le_mul_right _ hr
  omega
theorem dvs_dgt (X b i : Nat) (hb : 0 < b) : dgt (X / b) i = ((X / pw (i + 1)) % b * 4294967296 + dgt X i) / b := by
  have h1 := div_step X i
  have h2 := Nat.div_add_mod (X / pw (i + 1)) b
  have h3 := dvs_lt (Nat.mod_lt (X / pw (i + 1)) hb) (dgt_lt X i)
  show X / b / pw i % 4294967296 = _
  rw [div_comm3, h1, ← h2, ring5, Nat.add_mul_div_left _ _ hb]
  rw [Nat.mul_add_mod, Nat.mod_mod]
  generalize ((X / pw (i + 1)) % b * 4294967296 + dgt X i) / b = q at *
  omega
theorem dvs_mod (X b i : Nat) : (X / pw i) % b = ((X / pw (i + 1)) % b * 4294967296 + dgt X i) % b := by
  have h1 := div_step X i
  have h2 := Nat.div_add_mod (X / pw (i + 1)) b
  rw [h1, ← h2, ring5, Nat.add_mul_mod_self_left, Nat.mul_add_mod, Nat.mod_mod]

/- shifts to the right -/
theorem shr_dgt (X s i : Nat) (hs : s ≤ 32) : dgt (X / 2 ^ s) i = (dgt X (i + 1) * 4294967296 + dgt X i) / 2 ^ s % 4294967296 := by
  have h1 := div_step X i
  have h2 := div_step X (i + 1)
  have hp : 0 < 2 ^ s := Nat.two_pow_pos s
  have hB : 2 ^ s * 2 ^ (32 - s) = 4294967296 := by rw [← Nat.pow_add, show s + (32 - s) = 32 by omega]
  show X / 2 ^ s / pw i % 4294967296 = _
  rw [div_comm3, h1, h2]
  generalize X / pw (i + 1 + 1) = q
  rw [show (q * 4294967296 + dgt X (i + 1)) * 4294967296 + dgt X i = (dgt X (i + 1) * 4294967296 + dgt X i) + 2 ^ s * (q * 2 ^ (32 - s) * 4294967296) by
    rw [show 2 ^ s * (q * 2 ^ (32 - s) * 4294967296) = (2 ^ s * 2 ^ (32 - s)) * (q * 4294967296) by ac_rfl, hB]; omega]
  rw [Nat.add_mul_div_left _ _ hp, Nat.add_mul_mod_self_right]

/- the product: row i, place j -/
def prow (X Y i : Nat) : Nat := X % pw i * Y
def mulA (X Y i j : Nat) : Nat := prow X Y i % pw (i + j) + dgt X i * pw i * (Y % pw j)
def mulc (X Y i j : Nat) : Nat := mulA X Y i j / pw (i + j)
theorem prow_zero (X Y : Nat) : prow X Y 0 = 0 := by simp [prow, pw_zero, Nat.mod_one]
theorem ring6 (a p d y : Nat) : (a + p * d) * y = a * y + d * p * y := by rw [Nat.add_mul, Nat.mul_comm p d]
theorem prow_succ (X Y i : Nat) : prow X Y (i + 1) = prow X Y i + dgt X i * pw i * Y := by
  unfold prow; rw [mod_succ, ring6]
theorem prow_lt {X Y i m : Nat} (hY : Y < pw m) : prow X Y i < pw (i + m) := by
  unfold prow
  rw [pw_add]
  have h1 := mod_le X i
  have h2 : X % pw i * Y ≤ X % pw i * pw m := Nat.mul_le_mul_left _ (by omega)
  have h3 : (X % pw i + 1) * pw m ≤ pw i * pw m := Nat.mul_le_mul_right _ (by omega)
  rw [Nat.add_mul] at h3
  have := pw_pos m
  omega
theorem prow_full {X Y n : Nat} (hX : X < pw n) : prow X Y n = X * Y := by unfold prow; rw [mod_self hX]
theorem ring7 (a p q s d e t : Nat) : a + p * q * d + e * p * (t + q * s) = (a + e * p * t) + p * q * (d + e * s) := by grind
theorem mulA_succ (X Y i j : Nat) : mulA X Y i (j + 1) = mulA X Y i j + pw (i + j) * (dgt (prow X Y i) (i + j) + dgt X i * dgt Y j) := by
  unfold mulA
  rw [← Nat.add_assoc, mod_succ, mod_succ, pw_add i j, ring7]
theorem mulc_zero (X Y i : Nat) : mulc X Y i 0 = 0 := by
  unfold mulc mulA; rw [pw_zero, Nat.mod_one, Nat.mul_zero, Nat.add_zero, Nat.add_zero]; exact Nat.div_eq_of_lt (mod_le _ _)
theorem mulc_succ (X Y i j : Nat) : mulc X Y i (j + 1) = (dgt X i * dgt Y j + dgt (prow X Y i) (i + j) + mulc X Y i j) / 4294967296 := by
  unfold mulc
  rw [mulA_succ, ← Nat.add_assoc, acc_div]
  congr 1; omega
theorem ring8 (a p q s y z e b : Nat) (h1 : a = b + p * q * z) : a + e * p * (y + q * s) = (b + e * p * y) + p * q * (z + e * s) := by subst h1; grind
theorem mul_dgt (X Y i j : Nat) : dgt (prow X Y (i + 1)) (i + j) = (dgt X i * dgt Y j + dgt (prow X Y i) (i + j) + mulc X Y i j) % 4294967296 := by
  have h1 := mod_split (prow X Y i) (i + (j + 1))
  have h2 := mod_split Y (j + 1)
  have h3 : prow X Y (i + 1) = mulA X Y i (j + 1) + pw (i + j + 1) * (prow X Y i / pw (i + (j + 1)) + dgt X i * (Y / pw (j + 1))) := by
    rw [prow_succ]
    unfold mulA
    rw [Nat.add_assoc i j 1]
    rw [pw_add i (j + 1)] at h1 ⊢
    conv => lhs; arg 2; rw [h2]
    exact ring8 _ _ _ _ _ _ _ _ h1
  rw [h3, dgt_add_mul, mulA_succ, acc_dgt]
  unfold mulc
  congr 1; omega
theorem mulA_lt (X Y i j : Nat) : mulA X Y i j < pw (i + j) * 4294967296 := by
  unfold mulA
  have h1 := mod_le (prow X Y i) (i + j)
  have h2 := mod_le Y j
  have h3 : dgt X i * pw i * (Y % pw j) ≤ 4294967295 * pw i * pw j := Nat.mul_le_mul (Nat.mul_le_mul_right _ (by have := dgt_lt X i; omega)) (by omega)
  rw [Nat.mul_assoc 4294967295, ← pw_add] at h3
  omega
theorem mulc_lt (X Y i j : Nat) : mulc X Y i j < 4294967296 := by
  unfold mulc
  rw [Nat.div_lt_iff_lt_mul (pw_pos _), Nat.mul_comm]
  exact mulA_lt X Y i j
theorem mulc_full {X Y i m : Nat} (hY : Y < pw m) : mulc X Y i m = dgt (prow X Y (i + 1)) (i + m) := by
  have h1 := mulc_lt X Y i m
  have h2 : mulA X Y i m = prow X Y (i + 1) := by
    unfold mulA
    rw [mod_self (prow_lt hY), mod_self hY, prow_succ]
  unfold mulc at *
  unfold dgt
  rw [h2] at h1 ⊢
  exact (Nat.mod_eq_of_lt h1).symm
theorem prow_high {X Y i m p : Nat} (hY : Y < pw m) (hp : i + m < p) : dgt (prow X Y i) p = dgt (prow X Y (i + 1)) p := by
  rw [dgt_zero_of_lt (Nat.lt_of_lt_of_le (prow_lt (X := X) (i := i) hY) (pw_mono (by omega))),
    dgt_zero_of_lt (Nat.lt_of_lt_of_le (prow_lt (X := X) (i := i + 1) hY) (pw_mono (by omega)))]
theorem mul_bound {a b c d : Nat} (ha : a < 4294967296) (hb : b < 4294967296) (hc : c < 4294967296) (hd : d < 4294967296) : a * b + c + d < 18446744073709551616 := by
  have : a * b ≤ 4294967295 * 4294967295 := Nat.mul_le_mul (by omega) (by omega)
  omega
theorem mul_lt_pw {X Y n m : Nat} (hX : X < pw n) (hY : Y < pw m) : X * Y < pw (n + m) := by
  rw [← prow_full (Y := Y) hX]; exact prow_lt hY

end Go.Proofs.YtljncdcjkdgkeaaGreatDoor.Big

namespace Go.Proofs.YtljncdcjkdgkeaaGreatDoor.Big

theorem div_pw {D n : Nat} (hn : 0 < n) (hD : D < pw n) : D / pw (n - 1) = dgt D (n - 1) := by
  have h := div_step D (n - 1)
  rw [show n - 1 + 1 = n by omega, Nat.div_eq_of_lt hD] at h
  omega
theorem div_pw2 {D n : Nat} (hn : 2 ≤ n) (hD : D < pw n) : D / pw (n - 2) = dgt D (n - 1) * 4294967296 + dgt D (n - 2) := by
  have h := div_step D (n - 2)
  rw [show n - 2 + 1 = n - 1 by omega, div_pw (by omega) hD] at h
  exact h

section
variable {P D n : Nat}
/-- the first guess is no less than the digit -/
theorem guess_ge (hn : 0 < n) (hD : D < pw n) : P / D * dgt D (n - 1) ≤ P / pw (n - 1) := by
  rw [← div_pw hn hD, Nat.le_div_iff_mul_le (pw_pos _), Nat.mul_assoc]
  exact Nat.le_trans (Nat.mul_le_mul_left _ (Nat.div_mul_le_self _ _)) (Nat.div_mul_le_self _ _)
theorem high_lt (hn : 0 < n) (hD : D < pw n) (hP : P < 4294967296 * D) : P / pw (n - 1) < 4294967296 * dgt D (n - 1) + 4294967296 := by
  rw [Nat.div_lt_iff_lt_mul (pw_pos _), ← div_pw hn hD, show 4294967296 * (D / pw (n - 1)) + 4294967296 = 4294967296 * (D / pw (n - 1) + 1) by omega, Nat.mul_assoc]
  have := Nat.lt_div_mul_add (pw_pos (n - 1)) (a := D)
  rw [← Nat.succ_mul] at this
  exact Nat.lt_of_lt_of_le hP (Nat.mul_le_mul_left _ (Nat.le_of_lt this))
/-- too great a guess is seen by three digits -/
theorem guess_gt {g : Nat} (hD0 : 0 < D) (h : P / pw (n - 2) < g * (D / pw (n - 2))) : P / D < g := by
  rcases Nat.lt_or_ge (P / D) g with h1 | h1
  · exact h1
  · exfalso
    have h1 : g ≤ P / D := h1
    rw [Nat.le_div_iff_mul_le hD0] at h1
    have h2 : g * (D / pw (n - 2)) * pw (n - 2) ≤ P := Nat.le_trans (by rw [Nat.mul_assoc]; exact Nat.mul_le_mul_left _ (Nat.div_mul_le_self _ _)) h1
    rw [← Nat.le_div_iff_mul_le (pw_pos _)] at h2
    exact absurd h (Nat.not_lt.2 h2)
/-- a guess that three digits let by is one too great at the most -/
theorem guess_le {g : Nat} (hn : 2 ≤ n) (hDl : pw (n - 1) ≤ D) (hg : g < 4294967296) (h : g * (D / pw (n - 2)) ≤ P / pw (n - 2)) : g ≤ P / D + 1 := by
  have hD0 : 0 < D := Nat.lt_of_lt_of_le (pw_pos _) hDl
  rcases Nat.eq_zero_or_pos g with h0 | h0
  · rw [h0]; exact Nat.zero_le _
  have h1 : g * (D / pw (n - 2)) * pw (n - 2) ≤ P := Nat.le_trans (Nat.mul_le_mul_right _ h) (Nat.div_mul_le_self _ _)
  have h2 : D < D / pw (n - 2) * pw (n - 2) + pw (n - 2) := Nat.lt_div_mul_add (pw_pos _)
  have h3 : g * D ≤ g * (D / pw (n - 2) * pw (n - 2)) + g * pw (n - 2) := by rw [← Nat.mul_add]; exact Nat.mul_le_mul_left _ (Nat.le_of_lt h2)
  have h4 : g * pw (n - 2) < pw (n - 1) := by
    rw [show n - 1 = n - 2 + 1 by omega, pw_succ, Nat.mul_comm]
    exact Nat.mul_lt_mul_of_pos_left hg (pw_pos _)
  rw [← Nat.mul_assoc] at h3
  have h5 : (g - 1) * D ≤ P := by rw [Nat.sub_mul, Nat.one_mul]; omega
  rw [← Nat.le_div_iff_mul_le hD0] at h5
  omega
end

/-- one place of 'P less g times D': s is what is carried, e the new digit -/
theorem ring9 (a p d x g y s s' w e b : Nat) (h1 : a + p * s = g * y + w) (h2 : d + 4294967296 * s' = g * x + s + e) (hb : b = p * 4294967296) :
    a + p * d + b * s' = g * (y + p * x) + (w + p * e) := by
  subst hb
  have : p * (d + 4294967296 * s') = p * (g * x + s + e) := by rw [h2]
  simp only [Nat.mul_add] at this ⊢
  have e1 : p * (4294967296 * s') = p * 4294967296 * s' := by ac_rfl
  have e2 : p * (g * x) = g * (p * x) := by ac_rfl
  omega
theorem eq_of_mod {U V M x y : Nat} (hU : U < M) (hV : V < M) (h : U + M * x = V + M * y) : U = V := by
  have : (U + M * x) % M = (V + M * y) % M := by rw [h]
  rwa [Nat.add_mul_mod_self_left, Nat.add_mul_mod_self_left, Nat.mod_eq_of_lt hU, Nat.mod_eq_of_lt hV] at this
theorem ring10 {P a M A z d g D b B W c C s U : Nat} (h : P + z * (M * d) = g * D + W) (hP : P = a + M * A) (hD : D = b + M * B) (hW : W = c + M * C) (hs : a + M * s = g * b + U) :
    U + M * (A + z * d) = c + M * (s + g * B + C) := by
  subst hP hD hW
  simp only [Nat.mul_add] at h ⊢
  have e1 : z * (M * d) = M * (z * d) := by ac_rfl
  have e2 : g * (M * B) = M * (g * B) := by ac_rfl
  omega
theorem sub_step {P D W g n k z s s' e : Nat} (hk : k ≤ n) (hW : P + z * pw (n + 1) = g * D + W) (h : P % pw k + pw k * s = g * (D % pw k) + W % pw k)
    (he : dgt P k + 4294967296 * s' = g * dgt D k + s + e) (heb : e < 4294967296) :
    e = dgt W k ∧ P % pw (k + 1) + pw (k + 1) * s' = g * (D % pw (k + 1)) + W % pw (k + 1) := by
  have h1 : P % pw (k + 1) + pw (k + 1) * s' = g * (D % pw (k + 1)) + (W % pw k + pw k * e) := by
    rw [mod_succ, mod_succ D]; exact ring9 _ _ _ _ _ _ _ _ _ _ _ h he (pw_succ k)
  obtain ⟨d, hd⟩ : ∃ d, pw (n + 1) = pw (k + 1) * d := ⟨pw (n - k), by rw [← pw_add]; congr 1; omega⟩
  rw [hd] at hW
  have hU : W % pw k + pw k * e < pw (k + 1) := by
    have a1 := mod_le W k
    have a2 : pw k * e ≤ pw k * 4294967295 := Nat.mul_le_mul_left _ (by omega)
    rw [pw_succ]; omega
  have h2 := eq_of_mod hU (mod_le W (k + 1)) (ring10 hW (mod_split P (k + 1)) (mod_split D (k + 1)) (mod_split W (k + 1)) h1)
  refine ⟨?_, by rw [h1, h2]⟩
  rw [mod_succ] at h2
  exact Nat.eq_of_mul_eq_mul_left (pw_pos k) (by omega)

/-- the last place -/
theorem sub_last {P D W g n z s : Nat} (hP : P < pw (n + 1)) (hD : D < pw n) (hWl : W < pw (n + 1)) (hW : P + z * pw (n + 1) = g * D + W) (h : P % pw n + pw n * s = g * (D % pw n) + W % pw n) :
    dgt W n + s = dgt P n + 4294967296 * z := by
  have h1 := mod_split P n
  have h2 := mod_split W n
  have e1 : P / pw n = dgt P n := by have := div_step P n; rw [Nat.div_eq_of_lt hP] at this; omega
  have e2 : W / pw n = dgt W n := by have := div_step W n; rw [Nat.div_eq_of_lt hWl] at this; omega
  rw [e1] at h1
  rw [e2] at h2
  rw [mod_self hD] at h
  have e3 : z * pw (n + 1) = pw n * (4294967296 * z) := by rw [pw_succ]; ac_rfl
  refine Nat.eq_of_mul_eq_mul_left (pw_pos n) ?_
  rw [Nat.mul_add, Nat.mul_add, ← e3]
  omega

/-- what is left, and what is added back -/
theorem left_over {P D g n : Nat} (hP : P < pw (n + 1)) (hD : D < pw n) (hD0 : 0 < D) (hg1 : P / D ≤ g) (hg2 : g ≤ P / D + 1) :
    ∃ z W, P + z * pw (n + 1) = g * D + W ∧ W < pw (n + 1) ∧ ((z = 0 ∧ g = P / D ∧ W = P % D) ∨ (z = 1 ∧ g = P / D + 1 ∧ W + D = P % D + pw (n + 1))) := by
  have h1 := Nat.div_add_mod P D
  rw [Nat.mul_comm] at h1
  have hDn : D ≤ pw (n + 1) := Nat.le_trans (Nat.le_of_lt hD) (pw_mono (by omega))
  rcases Nat.lt_or_ge (P / D) g with h2 | h2
  · have e : g = P / D + 1 := by generalize P / D = q at *; omega
    have hm := Nat.mod_lt P hD0
    refine ⟨1, P % D + pw (n + 1) - D, ?_, ?_, .inr ⟨rfl, e, ?_⟩⟩
    · rw [e, Nat.add_mul, Nat.one_mul, Nat.one_mul]; generalize P % D = r at *; generalize P / D * D = r2 at *; omega
    · generalize P % D = r at *; omega
    · generalize P % D = r at *; omega
  · have e : g = P / D := by generalize P / D = q at *; omega
    exact ⟨0, P % D, by rw [e, Nat.zero_mul, Nat.add_zero]; exact h1.symm, Nat.lt_of_le_of_lt (Nat.mod_le _ _) hP, .inl ⟨rfl, e, rfl⟩⟩

/- the guess -/
structure DPre (P D n : Nat) : Prop where
  n2 : 2 ≤ n
  hP : P < pw (n + 1)
  hPD : P < 4294967296 * D
  hD : D < pw n
  top : 2147483648 ≤ dgt D (n - 1)
theorem DPre.pos {P D n : Nat} (h : DPre P D n) : 0 < D := by
  rcases Nat.eq_zero_or_pos D with h0 | h0
  · have := h.hPD; subst h0; omega
  · exact h0
theorem DPre.high {P D n : Nat} (h : DPre P D n) : P / pw (n - 1) = dgt P n * 4294967296 + dgt P (n - 1) := by
  have h1 := div_step P (n - 1)
  have h2 := h.n2
  rw [show n - 1 + 1 = n by omega, show P / pw n = dgt P n from div_pw (n := n + 1) (by omega) h.hP] at h1
  exact h1
theorem DPre.high3 {P D n : Nat} (h : DPre P D n) : P / pw (n - 2) = (dgt P n * 4294967296 + dgt P (n - 1)) * 4294967296 + dgt P (n - 2) := by
  have h1 := div_step P (n - 2)
  have h2 := h.n2
  rw [show n - 2 + 1 = n - 1 by omega, h.high] at h1
  exact h1
def GI (P D n g l : Nat) : Prop := g * dgt D (n - 1) + l = dgt P n * 4294967296 + dgt P (n - 1) ∧ P / D ≤ g
theorem GI.start {P D n : Nat} (h : DPre P D n) : GI P D n ((dgt P n * 4294967296 + dgt P (n - 1)) / dgt D (n - 1)) ((dgt P n * 4294967296 + dgt P (n - 1)) % dgt D (n - 1)) ∧
    (dgt P n * 4294967296 + dgt P (n - 1)) / dgt D (n - 1) ≤ 4294967297 := by
  have ht := h.top
  have hn := h.n2
  refine ⟨⟨by rw [Nat.mul_comm]; exact Nat.div_add_mod _ _, ?_⟩, ?_⟩
  · rw [Nat.le_div_iff_mul_le (by omega), ← h.high]; exact guess_ge (by omega) h.hD
  · have h1 := high_lt (by omega) h.hD h.hPD
    rw [h.high] at h1
    have h2 : (dgt P n * 4294967296 + dgt P (n - 1)) / dgt D (n - 1) < 4294967298 := by
      rw [Nat.div_lt_iff_lt_mul (by omega)]; omega
    generalize (dgt P n * 4294967296 + dgt P (n - 1)) / dgt D (n - 1) = q at *
    omega
theorem ring11 (g dt l h d2 p2 : Nat) (h1 : g * dt + l = h) : g * (dt * 4294967296 + d2) + l * 4294967296 = h * 4294967296 + g * d2 := by
  subst h1
  rw [Nat.mul_add, Nat.add_mul, ← Nat.mul_assoc]; omega
theorem ab1 (u L U3 u2 p : Nat) (h1 : u + L = U3 + u2) (h2 : L + p < u2) : U3 + p < u := by omega
theorem ab2 (u L U3 u2 p : Nat) (h1 : u + L = U3 + u2) (h2 : u2 ≤ L + p) : u ≤ U3 + p := by omega
theorem GI.dec {P D n g l : Nat} (h : DPre P D n) (hi : GI P D n g l) (hb : 4294967296 ≤ g ∨ l * 4294967296 + dgt P (n - 2) < g * dgt D (n - 2)) :
    GI P D n (g - 1) (l + dgt D (n - 1)) ∧ 1 ≤ g := by
  obtain ⟨h1, h2⟩ := hi
  have hlt : P / D < g := by
    rcases hb with hb | hb
    · have : P / D < 4294967296 := by rw [Nat.div_lt_iff_lt_mul h.pos]; exact h.hPD
      exact Nat.lt_of_lt_of_le this hb
    · refine guess_gt (n := n) h.pos ?_
      rw [h.high3, div_pw2 h.n2 h.hD]
      have := ring11 g _ l _ (dgt D (n - 2)) (dgt P (n - 2)) h1
      exact ab1 _ _ _ _ _ this hb
  have hg : 1 ≤ g := Nat.lt_of_le_of_lt (Nat.zero_le _) hlt
  refine ⟨⟨?_, Nat.le_sub_one_of_lt hlt⟩, hg⟩
  rw [← h1, Nat.sub_mul, Nat.one_mul]
  have : dgt D (n - 1) ≤ g * dgt D (n - 1) := Nat.le_mul_of_pos_left _ hg
  omega
theorem GI.out {P D n g l : Nat} (h : DPre P D n) (hi : GI P D n g l) (hb : 4294967296 ≤ l ∨ (g < 4294967296 ∧ g * dgt D (n - 2) ≤ l * 4294967296 + dgt P (n - 2))) :
    g < 4294967296 ∧ P / D ≤ g ∧ g ≤ P / D + 1 := by
  obtain ⟨h1, h2⟩ := hi
  have hn := h.n2
  have hg : g < 4294967296 := by
    rcases hb with hb | hb
    · have h3 := high_lt (by omega) h.hD h.hPD
      rw [h.high, ← h1] at h3
      have h4 : g * dgt D (n - 1) < 4294967296 * dgt D (n - 1) := by omega
      exact Nat.lt_of_mul_lt_mul_right h4
    · exact hb.1
  refine ⟨hg, h2, guess_le hn ?_ hg ?_⟩
  · have := h.top
    exact le_of_dgt (by omega)
  · rw [h.high3, div_pw2 hn h.hD]
    have h3 := ring11 g _ l _ (dgt D (n - 2)) (dgt P (n - 2)) h1
    have h4 : g * dgt D (n - 2) ≤ l * 4294967296 + dgt P (n - 2) := by
      rcases hb with hb | hb
      · have : g * dgt D (n - 2) ≤ 4294967295 * 4294967296 := Nat.mul_le_mul (by omega) (Nat.le_of_lt (dgt_lt _ _))
        omega
      · exact hb.2
    exact ab2 _ _ _ _ _ h3 h4

/- the whole division -/
/-- what is left of R when the quotient's digits from j on have been taken away -/
def rst (R D j : Nat) : Nat := D * (R / D % pw j) + R % D
theorem rst_full {R D c : Nat} (h : R / D < pw c) : rst R D c = R := by unfold rst; rw [mod_self h]; exact Nat.div_add_mod R D
theorem rst_zero (R D : Nat) : rst R D 0 = R % D := by unfold rst; rw [pw_zero, Nat.mod_one]; omega
theorem rst_lt {R D j : Nat} (hD : 0 < D) : rst R D j < D * pw j := by
  unfold rst
  have h1 := mod_le (R / D) j
  have h2 := Nat.mod_lt R hD
  have h3 : D * (R / D % pw j + 1) ≤ D * pw j := Nat.mul_le_mul_left _ h1
  rw [Nat.mul_add] at h3; omega
theorem rst_succ (R D j : Nat) : rst R D (j + 1) = rst R D j + pw j * (dgt (R / D) j * D) := by
  unfold rst
  rw [mod_succ, Nat.mul_add, show D * (pw j * dgt (R / D) j) = pw j * (dgt (R / D) j * D) by ac_rfl]; omega
theorem rst_div (R D j : Nat) : rst R D (j + 1) / pw j = rst R D j / pw j + dgt (R / D) j * D := by
  rw [rst_succ, Nat.add_mul_div_left _ _ (pw_pos j)]
theorem rst_quo {R D j : Nat} (hD : 0 < D) : rst R D (j + 1) / pw j / D = dgt (R / D) j := by
  rw [rst_div, Nat.add_mul_div_right _ _ hD, Nat.div_eq_of_lt, Nat.zero_add]
  rw [Nat.div_lt_iff_lt_mul (pw_pos j)]; exact rst_lt hD
theorem rst_rem {R D j : Nat} (hD : 0 < D) : rst R D (j + 1) / pw j % D = rst R D j / pw j := by
  rw [rst_div, Nat.add_mul_mod_self_right, Nat.mod_eq_of_lt]
  rw [Nat.div_lt_iff_lt_mul (pw_pos j)]; exact rst_lt hD
theorem dgt_div (V j p : Nat) : dgt (V / pw j) p = dgt V (j + p) := by
  unfold dgt; rw [Nat.div_div_eq_div_mul, ← pw_add]
theorem rst_low {R D j p : Nat} (h : p < j) : dgt (rst R D (j + 1)) p = dgt (rst R D j) p := by
  obtain ⟨k, rfl⟩ : ∃ k, j = p + 1 + k := ⟨j - p - 1, by omega⟩
  rw [rst_succ, pw_add, Nat.mul_assoc, dgt_add_mul]
theorem scale_div {A B s : Nat} : A * 2 ^ s / (B * 2 ^ s) = A / B := Nat.mul_div_mul_right A B (Nat.two_pow_pos s)
theorem scale_mod {A B s : Nat} : A * 2 ^ s % (B * 2 ^ s) / 2 ^ s = A % B := by
  rw [Nat.mul_mod_mul_right, Nat.mul_div_cancel _ (Nat.two_pow_pos s)]

end Go.Proofs.YtljncdcjkdgkeaaGreatDoor.Big

namespace Go.Proofs.YtljncdcjkdgkeaaGreatDoor.Big

theorem lz_top {x : Nat} (h0 : 0 < x) (h1 : x < 4294967296) : Lib.bitLen x ≤ 32 ∧ 1 ≤ Lib.bitLen x ∧ 2147483648 ≤ x * 2 ^ (32 - Lib.bitLen x) ∧ (x + 1) * 2 ^ (32 - Lib.bitLen x) ≤ 4294967296 := by
  have h2 := Lib.bitLen_le x 32 (by omega) h1
  obtain ⟨h3, h4, h5⟩ := Lib.bitLenAux_bounds 64 x (by omega) (by omega)
  have e : Lib.bitLenAux 64 x = Lib.bitLen x := rfl
  rw [e] at h3 h4 h5
  refine ⟨h2, h3, ?_, ?_⟩
  · have : 2 ^ (Lib.bitLen x - 1) * 2 ^ (32 - Lib.bitLen x) ≤ x * 2 ^ (32 - Lib.bitLen x) := Nat.mul_le_mul_right _ h4
    rw [← Nat.pow_add, show Lib.bitLen x - 1 + (32 - Lib.bitLen x) = 31 by omega] at this
    exact this
  · have : (x + 1) * 2 ^ (32 - Lib.bitLen x) ≤ 2 ^ Lib.bitLen x * 2 ^ (32 - Lib.bitLen x) := Nat.mul_le_mul_right _ h5
    rw [← Nat.pow_add, show Lib.bitLen x + (32 - Lib.bitLen x) = 32 by omega] at this
    exact this

section
variable {V n s : Nat}
theorem shl_lt (hn : 1 ≤ n) (hV : V < pw n) (h : (dgt V (n - 1) + 1) * 2 ^ s ≤ 4294967296) : V * 2 ^ s < pw n := by
  have h1 := Nat.lt_div_mul_add (pw_pos (n - 1)) (a := V)
  rw [div_pw hn hV] at h1
  have h2 : (V + 1) * 2 ^ s ≤ (dgt V (n - 1) + 1) * pw (n - 1) * 2 ^ s := Nat.mul_le_mul_right _ (by rw [Nat.succ_mul]; omega)
  have h3 : (dgt V (n - 1) + 1) * pw (n - 1) * 2 ^ s ≤ pw n := by
    rw [show (dgt V (n - 1) + 1) * pw (n - 1) * 2 ^ s = pw (n - 1) * ((dgt V (n - 1) + 1) * 2 ^ s) by ac_rfl]
    have := Nat.mul_le_mul_left (pw (n - 1)) h
    rw [← pw_succ, show n - 1 + 1 = n by omega] at this
    exact this
  have h4 := Nat.two_pow_pos s
  rw [Nat.add_mul, Nat.one_mul] at h2
  omega
theorem shl_top (hn : 1 ≤ n) (hV : V < pw n) (h : (dgt V (n - 1) + 1) * 2 ^ s ≤ 4294967296) (h2 : 2147483648 ≤ dgt V (n - 1) * 2 ^ s) : 2147483648 ≤ dgt (V * 2 ^ s) (n - 1) := by
  rw [← div_pw hn (shl_lt hn hV h)]
  refine Nat.le_trans h2 ?_
  rw [Nat.le_div_iff_mul_le (pw_pos _)]
  have h1 := Nat.div_mul_le_self V (pw (n - 1))
  rw [div_pw hn hV] at h1
  rw [show dgt V (n - 1) * 2 ^ s * pw (n - 1) = dgt V (n - 1) * pw (n - 1) * 2 ^ s by ac_rfl]
  exact Nat.mul_le_mul_right _ h1
end
theorem quo_lt {A B n m : Nat} (hA : A < pw n) (hm : 1 ≤ m) (hmn : m ≤ n) (hB : pw (m - 1) ≤ B) : A / B < pw (n - m + 1) := by
  have hB0 : 0 < B := Nat.lt_of_lt_of_le (pw_pos _) hB
  rw [Nat.div_lt_iff_lt_mul hB0]
  refine Nat.lt_of_lt_of_le hA ?_
  have := Nat.mul_le_mul_left (pw (n - m + 1)) hB
  rw [← pw_add, show n - m + 1 + (m - 1) = n by omega] at this
  exact this
theorem rst_lt_pw {R D j m : Nat} (hD0 : 0 < D) (hD : D < pw m) : rst R D j < pw (m + j) := by
  have h1 := rst_lt (R := R) (j := j) hD0
  have h2 : D * pw j ≤ pw m * pw j := Nat.mul_le_mul_right _ (Nat.le_of_lt hD)
  rw [← pw_add] at h2
  omega
theorem win_pre {R D j m : Nat} (hm : 2 ≤ m) (hD0 : 0 < D) (hD : D < pw m) (ht : 2147483648 ≤ dgt D (m - 1)) : DPre (rst R D (j + 1) / pw j) D m := by
  refine ⟨hm, ?_, ?_, hD, ht⟩
  · rw [Nat.div_lt_iff_lt_mul (pw_pos j), ← pw_add]
    have := rst_lt_pw (R := R) (j := j + 1) hD0 hD
    rwa [show m + 1 + j = m + (j + 1) by omega]
  · rw [Nat.div_lt_iff_lt_mul (pw_pos j)]
    have := rst_lt (R := R) (j := j + 1) hD0
    rwa [pw_succ, ← Nat.mul_assoc, Nat.mul_right_comm, Nat.mul_comm D] at this
theorem cmp_trim {n m X Y : Nat} (hX : X < pw n) (hY : Y < pw m) (tX : n = 0 ∨ pw (n - 1) ≤ X) (tY : m = 0 ∨ pw (m - 1) ≤ Y) : (n < m → X < Y) ∧ (m < n → Y < X) := by
  constructor
  · intro h
    rcases tY with h0 | h0
    · omega
    · exact Nat.lt_of_lt_of_le hX (Nat.le_trans (pw_mono (by omega)) h0)
  · intro h
    rcases tX with h0 | h0
    · omega
    · exact Nat.lt_of_lt_of_le hY (Nat.le_trans (pw_mono (by omega)) h0)

end Go.Proofs.YtljncdcjkdgkeaaGreatDoor.Big
