/- Plain arithmetic on digits to the base 2^32: no program in sight. -/
import Derived.Below
set_option linter.unusedVariables false
set_option linter.unusedSimpArgs false
namespace Go.Proofs.YtginogcdjplhiaaGreatDoor.Big

def pw (n : Nat) : Nat := 4294967296 ^ n
theorem pw_zero : pw 0 = 1 := rfl
theorem pw_succ (n : Nat) : pw (n + 1) = pw n * 4294967296 := Nat.pow_succ ..
theorem pw_pos (n : Nat) : 0 < pw n := Nat.pow_pos (by omega)
theorem pw_add (a b : Nat) : pw (a + b) = pw a * pw b := Nat.pow_add ..
theorem pw_mono {a b : Nat} (h : a ≤ b) : pw a ≤ pw b := Nat.pow_le_pow_right (by omega) h
theorem pw_lt {a b : Nat} (h : a < b) : pw a < pw b := Nat.pow_lt_pow_right (by omega) h
theorem pw_one : pw 1 = 4294967296 := rfl
theorem le_of_pw {n L V : Nat} (h : pw (n - 1) ≤ V) (hV : V < pw L) : n ≤ L := by
  rcases Nat.lt_or_ge L n with h1 | h1
  · have := pw_mono (show L ≤ n - 1 by omega); omega
  · exact h1

/-- digit number j of V -/
def dgt (V j : Nat) : Nat := V / pw j % 4294967296
theorem dgt_lt (V j : Nat) : dgt V j < 4294967296 := Nat.mod_lt _ (by omega)
theorem mod_succ (V j : Nat) : V % pw (j + 1) = V % pw j + pw j * dgt V j := by
  rw [pw_succ]; exact Nat.mod_mul
theorem div_step (V j : Nat) : V / pw j = V / pw (j + 1) * 4294967296 + dgt V j := by
  unfold dgt; rw [pw_succ, ← Nat.div_div_eq_div_mul]; omega
theorem dgt_zero_of_lt {V j : Nat} (h : V < pw j) : dgt V j = 0 := by
  unfold dgt; rw [Nat.div_eq_of_lt h]
theorem lt_of_dgt_zero {V n : Nat} (h : V < pw (n + 1)) (hd : dgt V n = 0) : V < pw n := by
  have h1 := div_step V n
  have h2 : V / pw (n + 1) = 0 := Nat.div_eq_of_lt h
  rw [h2, hd] at h1
  have := (Nat.div_eq_zero_iff (a := V) (b := pw n)).1 (by omega)
  have := pw_pos n
  omega
theorem le_of_dgt {V n : Nat} (hd : dgt V n ≠ 0) : pw n ≤ V := by
  rcases Nat.lt_or_ge V (pw n) with h | h
  · exact absurd (dgt_zero_of_lt h) hd
  · exact h
theorem dgt_mod {V n j : Nat} (h : j < n) : dgt (V % pw n) j = dgt V j := by
  unfold dgt
  obtain ⟨k, rfl⟩ : ∃ k, n = j + (k + 1) := ⟨n - j - 1, by omega⟩
  rw [pw_add, pw_succ, Nat.mul_comm (pw k), Nat.mod_mul_right_div_self, Nat.mod_mul_right_mod]
theorem mod_self {V n : Nat} (h : V < pw n) : V % pw n = V := Nat.mod_eq_of_lt h
theorem mod_le (V n : Nat) : V % pw n < pw n := Nat.mod_lt _ (pw_pos n)

/-- equal digits, equal numbers -/
theorem eq_of_dgt {V W : Nat} (n : Nat) (hV : V < pw n) (hW : W < pw n) (h : ∀ j, j < n → dgt V j = dgt W j) : V = W := by
  have : ∀ m, m ≤ n → V % pw m = W % pw m := by
    intro m
    induction m with
    | zero => intro _; simp [pw_zero, Nat.mod_one]
    | succ m ih => intro hm; rw [mod_succ, mod_succ, ih (by omega), h m (by omega)]
  have := this n (Nat.le_refl _)
  rwa [mod_self hV, mod_self hW] at this

/-- what is compared from the top -/
theorem lt_of_top {V W i : Nat} (hd : V / pw (i + 1) = W / pw (i + 1)) (h : dgt V i < dgt W i) : V < W := by
  have h1 := div_step V i
  have h2 := div_step W i
  rw [hd] at h1
  have h3 : V / pw i < W / pw i := by omega
  exact Nat.lt_of_div_lt_div h3
theorem div_of_top {V W i : Nat} (hd : V / pw (i + 1) = W / pw (i + 1)) (h : dgt V i = dgt W i) : V / pw i = W / pw i := by
  have h1 := div_step V i
  have h2 := div_step W i
  rw [hd, h] at h1; omega

/-- one step of adding from the bottom: A is what has been added, c its part from place k on -/
theorem acc_div {A k t : Nat} : (A + pw k * t) / pw (k + 1) = (A / pw k + t) / 4294967296 := by
  rw [pw_succ, ← Nat.div_div_eq_div_mul, Nat.add_mul_div_left _ _ (pw_pos k)]
theorem acc_dgt {A k t : Nat} : dgt (A + pw k * t) k = (A / pw k + t) % 4294967296 := by
  unfold dgt; rw [Nat.add_mul_div_left _ _ (pw_pos k)]
theorem dgt_congr {V W k : Nat} (h : V % pw (k + 1) = W % pw (k + 1)) : dgt V k = dgt W k := by
  rw [← dgt_mod (V := V) (Nat.lt_succ_self k), ← dgt_mod (V := W) (Nat.lt_succ_self k), h]
theorem dgt_add_mul (V W k : Nat) : dgt (V + pw (k + 1) * W) k = dgt V k := dgt_congr (by rw [Nat.add_mul_mod_self_left])
theorem mod_split (V n : Nat) : V = V % pw n + pw n * (V / pw n) := (Nat.mod_add_div V (pw n)).symm

theorem ring1 {X Y a b p q dx dy s t : Nat} (h1 : X = a + p * dx + q * s) (h2 : Y = b + p * dy + q * t) : X + Y = ((a + b) + p * (dx + dy)) + q * (s + t) := by subst h1 h2; grind
theorem ring2 {X a p q dx s f m : Nat} (h1 : X = a + p * dx + q * s) : X * f + m = ((m + f * a) + p * (dx * f)) + q * (s * f) := by subst h1; grind
theorem ring3 (a b p x y : Nat) : a + p * x + (b + p * y) = (a + b) + p * (x + y) := by grind
theorem ring4 (m f a p d : Nat) : m + f * (a + p * d) = (m + f * a) + p * (d * f) := by grind

/- the sum -/
def sumc (X Y i : Nat) : Nat := (X % pw i + Y % pw i) / pw i
theorem sumc_zero (X Y : Nat) : sumc X Y 0 = 0 := by simp [sumc, pw_zero, Nat.mod_one]
theorem sumc_succ (X Y i : Nat) : sumc X Y (i + 1) = (dgt X i + dgt Y i + sumc X Y i) / 4294967296 := by
  unfold sumc
  rw [mod_succ, mod_succ, ring3, acc_div]
  congr 1; omega
theorem sum_dgt (X Y i : Nat) : dgt (X + Y) i = (dgt X i + dgt Y i + sumc X Y i) % 4294967296 := by
  have : (X + Y) = ((X % pw i + Y % pw i) + pw i * (dgt X i + dgt Y i)) + pw (i + 1) * (X / pw (i + 1) + Y / pw (i + 1)) := by
    have h1 := mod_split X (i + 1)
    have h2 := mod_split Y (i + 1)
    rw [mod_succ] at h1 h2
    exact ring1 h1 h2
  rw [this, dgt_add_mul, acc_dgt]
  unfold sumc; congr 1; omega
theorem sumc_le (X Y i : Nat) : sumc X Y i ≤ 1 := by
  unfold sumc
  have h1 := mod_le X i
  have h2 := mod_le Y i
  have := (Nat.div_lt_iff_lt_mul (pw_pos i) (x := X % pw i + Y % pw i) (y := 2)).2 (by omega)
  omega
theorem sumc_full {X Y n : Nat} (hX : X < pw n) (hY : Y < pw n) : sumc X Y n = dgt (X + Y) n := by
  have := sumc_le X Y n
  unfold sumc at *; unfold dgt; rw [mod_self hX, mod_self hY] at *
  generalize (X + Y) / pw n = q at *
  omega

/- the difference: the borrow -/
def difc (X Y i : Nat) : Nat := if X % pw i < Y % pw i then 1 else 0
theorem difc_zero (X Y : Nat) : difc X Y 0 = 0 := by simp [difc, pw_zero, Nat.mod_one]
theorem difc_le (X Y i : Nat) : difc X Y i ≤ 1 := by unfold difc; split <;> omega
theorem dif_step (X Y i : Nat) (h : Y ≤ X) :
    (dgt X i < dgt Y i + difc X Y i → difc X Y (i + 1) = 1 ∧ dgt (X - Y) i + dgt Y i + difc X Y i = dgt X i + 4294967296) ∧
    (dgt Y i + difc X Y i ≤ dgt X i → difc X Y (i + 1) = 0 ∧ dgt (X - Y) i + dgt Y i + difc X Y i = dgt X i) := by
  -- the sum of X - Y and Y
  have hs := sum_dgt (X - Y) Y i
  have hc := sumc_succ (X - Y) Y i
  have e : X - Y + Y = X := by omega
  rw [e] at hs
  have key : ∀ k, difc X Y k = sumc (X - Y) Y k := by
    intro k
    unfold difc sumc
    have h1 : X % pw k = ((X - Y) % pw k + Y % pw k) % pw k := by rw [← Nat.add_mod, e]
    have a1 := mod_le (X - Y) k
    have a2 := mod_le Y k
    rcases Nat.lt_or_ge ((X - Y) % pw k + Y % pw k) (pw k) with hl | hl
    · rw [Nat.mod_eq_of_lt hl] at h1
      rw [Nat.div_eq_of_lt hl, if_neg (by omega)]
    · have h2 : ((X - Y) % pw k + Y % pw k) % pw k = (X - Y) % pw k + Y % pw k - pw k := by
        rw [Nat.mod_eq_sub_mod hl, Nat.mod_eq_of_lt (by omega)]
      have h3 : ((X - Y) % pw k + Y % pw k) / pw k = 1 := by
        have u := sumc_le (X - Y) Y k
        unfold sumc at u
        have := (Nat.le_div_iff_mul_le (pw_pos k) (x := 1) (y := (X - Y) % pw k + Y % pw k)).2 (by omega)
        omega
      rw [h3, if_pos (by omega)]
  rw [key i, key (i + 1), hc, hs]
  have b1 := dgt_lt (X - Y) i
  have b2 := dgt_lt Y i
  have b3 := sumc_le (X - Y) Y i
  constructor <;> intro h <;> omega

/- digits times a factor, plus more -/
def scac (X f m i : Nat) : Nat := (m + f * (X % pw i)) / pw i
theorem scac_zero (X f m : Nat) : scac X f m 0 = m := by simp [scac, pw_zero, Nat.mod_one]
theorem scac_succ (X f m i : Nat) : scac X f m (i + 1) = (dgt X i * f + scac X f m i) / 4294967296 := by
  unfold scac
  rw [mod_succ, ring4, acc_div]
  congr 1; omega
theorem sca_dgt (X f m i : Nat) : dgt (X * f + m) i = (dgt X i * f + scac X f m i) % 4294967296 := by
  have : X * f + m = ((m + f * (X % pw i)) + pw i * (dgt X i * f)) + pw (i + 1) * (X / pw (i + 1) * f) := by
    have h1 := mod_split X (i + 1)
    rw [mod_succ] at h1
    exact ring2 h1
  rw [this, dgt_add_mul, acc_dgt]
  unfold scac; congr 1; omega
theorem scac_lt (X f m i : Nat) (hf : 0 < f) (hm : m < f) : scac X f m i < f := by
  unfold scac
  rw [Nat.div_lt_iff_lt_mul (pw_pos i)]
  have h1 := mod_le X i
  have h2 : f * (X % pw i) + f ≤ f * pw i := by
    have : f * (X % pw i + 1) ≤ f * pw i := Nat.mul_le_mul_left _ (by omega)
    rwa [Nat.mul_add, Nat.mul_one] at this
  omega
theorem scac_full {X f m n : Nat} (hX : X < pw n) (h : X * f + m < pw (n + 1)) : scac X f m n = dgt (X * f + m) n := by
  unfold scac dgt
  rw [mod_self hX, Nat.add_comm m, Nat.mul_comm f X]
  have : (X * f + m) / pw n < 4294967296 := by
    rw [Nat.div_lt_iff_lt_mul (pw_pos n)]; rw [pw_succ] at h; omega
  generalize (X * f + m) / pw n = q at *
  omega

/- division by one small number, from the top -/
theorem div_comm3 (X a b : Nat) : X / a / b = X / b / a := by rw [Nat.div_div_eq_div_mul, Nat.div_div_eq_div_mul, Nat.mul_comm]
theorem ring5 (b q r d : Nat) : (b * q + r) * 4294967296 + d = (r * 4294967296 + d) + b * (q * 4294967296) := by
  rw [Nat.add_mul, Nat.mul_assoc]; omega
theorem dvs_lt {r d b : Nat} (hr : r < b) (hd : d < 4294967296) : (r * 4294967296 + d) / b < 4294967296 := by
  rw [Nat.div_lt_iff_lt_mul (by omega)]
  have : (r + 1) * 4294967296 ≤ b * 4294967296 := Nat.mul_le_mul_right _ hr
  omega
theorem dvs_dgt (X b i : Nat) (hb : 0 < b) : dgt (X / b) i = ((X / pw (i + 1)) % b * 4294967296 + dgt X i) / b := by
  have h1 := div_step X i
  have h2 := Nat.div_add_mod (X / pw (i + 1)) b
  have h3 := dvs_lt (Nat.mod_lt (X / pw (i + 1)) hb) (dgt_lt X i)
  show X / b / pw i % 4294967296 = _
  rw [div_comm3, h1, ← h2, ring5, Nat.add_mul_div_left _ _ hb]
  rw [Nat.mul_add_mod, Nat.mod_mod]
  generalize ((X / pw (i + 1)) % b * 4294967296 + dgt X i) / b = q at *
  omega
theorem dvs_mod (X b i : Nat) : (X / pw i) % b = ((X / pw (i + 1)) % b * 4294967296 + dgt X i) % b := by
  have h1 := div_step X i
  have h2 := Nat.div_add_mod (X / pw (i + 1)) b
  rw [h1, ← h2, ring5, Nat.add_mul_mod_self_left, Nat.mul_add_mod, Nat.mod_mod]

/- shifts to the right -/
theorem shr_dgt (X s i : Nat) (hs : s ≤ 32) : dgt (X / 2 ^ s) i = (dgt X (i + 1) * 4294967296 + dgt X i) / 2 ^ s % 4294967296 := by
  have h1 := div_step X i
  have h2 := div_step X (i + 1)
  have hp : 0 < 2 ^ s := Nat.two_pow_pos s
  have hB : 2 ^ s * 2 ^ (32 - s) = 4294967296 := by rw [← Nat.pow_add, show s + (32 - s) = 32 by omega]
  show X / 2 ^ s / pw i % 4294967296 = _
  rw [div_comm3, h1, h2]
  generalize X / pw (i + 1 + 1) = q
  rw [show (q * 4294967296 + dgt X (i + 1)) * 4294967296 + dgt X i = (dgt X (i + 1) * 4294967296 + dgt X i) + 2 ^ s * (q * 2 ^ (32 - s) * 4294967296) by
    rw [show 2 ^ s * (q * 2 ^ (32 - s) * 4294967296) = (2 ^ s * 2 ^ (32 - s)) * (q * 4294967296) by ac_rfl, hB]; omega]
  rw [Nat.add_mul_div_left _ _ hp, Nat.add_mul_mod_self_right]

/- the product: row i, place j -/
def prow (X Y i : Nat) : Nat := X % pw i * Y
def mulA (X Y i j : Nat) : Nat := prow X Y i % pw (i + j) + dgt X i * pw i * (Y % pw j)
def mulc (X Y i j : Nat) : Nat := mulA X Y i j / pw (i + j)
theorem prow_zero (X Y : Nat) : prow X Y 0 = 0 := by simp [prow, pw_zero, Nat.mod_one]
theorem ring6 (a p d y : Nat) : (a + p * d) * y = a * y + d * p * y := by rw [Nat.add_mul, Nat.mul_comm p d]
theorem prow_succ (X Y i : Nat) : prow X Y (i + 1) = prow X Y i + dgt X i * pw i * Y := by
  unfold prow; rw [mod_succ, ring6]
theorem prow_lt {X Y i m : Nat} (hY : Y < pw m) : prow X Y i < pw (i + m) := by
  unfold prow
  rw [pw_add]
  have h1 := mod_le X i
  have h2 : X % pw i * Y ≤ X % pw i * pw m := Nat.mul_le_mul_left _ (by omega)
  have h3 : (X % pw i + 1) * pw m ≤ pw i * pw m := Nat.mul_le_mul_right _ (by omega)
  rw [Nat.add_mul] at h3
  have := pw_pos m
  omega
theorem prow_full {X Y n : Nat} (hX : X < pw n) : prow X Y n = X * Y := by unfold prow; rw [mod_self hX]
theorem ring7 (a p q s d e t : Nat) : a + p * q * d + e * p * (t + q * s) = (a + e * p * t) + p * q * (d + e * s) := by grind
theorem mulA_succ (X Y i j : Nat) : mulA X Y i (j + 1) = mulA X Y i j + pw (i + j) * (dgt (prow X Y i) (i + j) + dgt X i * dgt Y j) := by
  unfold mulA
  rw [← Nat.add_assoc, mod_succ, mod_succ, pw_add i j, ring7]
theorem mulc_zero (X Y i : Nat) : mulc X Y i 0 = 0 := by
  unfold mulc mulA; rw [pw_zero, Nat.mod_one, Nat.mul_zero, Nat.add_zero, Nat.add_zero]; exact Nat.div_eq_of_lt (mod_le _ _)
theorem mulc_succ (X Y i j : Nat) : mulc X Y i (j + 1) = (dgt X i * dgt Y j + dgt (prow X Y i) (i + j) + mulc X Y i j) / 4294967296 := by
  unfold mulc
  rw [mulA_succ, ← Nat.add_assoc, acc_div]
  congr 1; omega
theorem ring8 (a p q s y z e b : Nat) (h1 : a = b + p * q * z) : a + e * p * (y + q * s) = (b + e * p * y) + p * q * (z + e * s) := by subst h1; grind
theorem mul_dgt (X Y i j : Nat) : dgt (prow X Y (i + 1)) (i + j) = (dgt X i * dgt Y j + dgt (prow X Y i) (i + j) + mulc X Y i j) % 4294967296 := by
  have h1 := mod_split (prow X Y i) (i + (j + 1))
  have h2 := mod_split Y (j + 1)
  have h3 : prow X Y (i + 1) = mulA X Y i (j + 1) + pw (i + j + 1) * (prow X Y i / pw (i + (j + 1)) + dgt X i * (Y / pw (j + 1))) := by
    rw [prow_succ]
    unfold mulA
    rw [Nat.add_assoc i j 1]
    rw [pw_add i (j + 1)] at h1 ⊢
    conv => lhs; arg 2; rw [h2]
    exact ring8 _ _ _ _ _ _ _ _ h1
  rw [h3, dgt_add_mul, mulA_succ, acc_dgt]
  unfold mulc
  congr 1; omega
theorem mulA_lt (X Y i j : Nat) : mulA X Y i j < pw (i + j) * 4294967296 := by
  unfold mulA
  have h1 := mod_le (prow X Y i) (i + j)
  have h2 := mod_le Y j
  have h3 : dgt X i * pw i * (Y % pw j) ≤ 4294967295 * pw i * pw j := Nat.mul_le_mul (Nat.mul_le_mul_right _ (by have := dgt_lt X i; omega)) (by omega)
  rw [Nat.mul_assoc 4294967295, ← pw_add] at h3
  omega
theorem mulc_lt (X Y i j : Nat) : mulc X Y i j < 4294967296 := by
  unfold mulc
  rw [Nat.div_lt_iff_lt_mul (pw_pos _), Nat.mul_comm]
  exact mulA_lt X Y i j
theorem mulc_full {X Y i m : Nat} (hY : Y < pw m) : mulc X Y i m = dgt (prow X Y (i + 1)) (i + m) := by
  have h1 := mulc_lt X Y i m
  have h2 : mulA X Y i m = prow X Y (i + 1) := by
    unfold mulA
    rw [mod_self (prow_lt hY), mod_self hY, prow_succ]
  unfold mulc at *
  unfold dgt
  rw [h2] at h1 ⊢
  exact (Nat.mod_eq_of_lt h1).symm
theorem prow_high {X Y i m p : Nat} (hY : Y < pw m) (hp : i + m < p) : dgt (prow X Y i) p = dgt (prow X Y (i + 1)) p := by
  rw [dgt_zero_of_lt (Nat.lt_of_lt_of_le (prow_lt (X := X) (i := i) hY) (pw_mono (by omega))),
    dgt_zero_of_lt (Nat.lt_of_lt_of_le (prow_lt (X := X) (i := i + 1) hY) (pw_mono (by omega)))]
theorem mul_bound {a b c d : Nat} (ha : a < 4294967296) (hb : b < 4294967296) (hc : c < 4294967296) (hd : d < 4294967296) : a * b + c + d < 18446744073709551616 := by
  have : a * b ≤ 4294967295 * 4294967295 := Nat.mul_le_mul (by omega) (by omega)
  omega
theorem mul_lt_pw {X Y n m : Nat} (hX : X < pw n) (hY : Y < pw m) : X * Y < pw (n + m) := by
  rw [← prow_full (Y := Y) hX]; exact prow_lt hY

end Go.Proofs.YtginogcdjplhiaaGreatDoor.Big
