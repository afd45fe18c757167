/- Plain: decimal digits in chunks of nine. -/
import Derived.Test.YtginogcdjplhiaaGreatDoorVal
import Derived.Lib.ItoaNum
import Derived.Lib.ItoaMem
set_option linter.unusedVariables false
set_option linter.unusedSimpArgs false
namespace Go.Proofs.YtginogcdjplhiaaGreatDoor.Big
open Go.Lib

def pad : Nat → Nat → List UInt8
  | 0, _ => []
  | k + 1, r => pad k (r / 10) ++ [UInt8.ofNat (48 + r % 10)]
theorem decDigits_big {u : Nat} (h : ¬ u < 10) : decDigits u = decDigits (u / 10) ++ [UInt8.ofNat (48 + u % 10)] := by rw [decDigits, dif_neg h]
theorem decDigits_pad {q : Nat} (hq : 1 ≤ q) : ∀ (k r : Nat), r < 10 ^ k → decDigits (q * 10 ^ k + r) = decDigits q ++ pad k r := by
  intro k
  induction k with
  | zero => intro r hr; have : r = 0 := by simpa using hr
            subst this; simp [pad]
  | succ k ih =>
    intro r hr
    have h10 : 10 ^ (k + 1) = 10 * 10 ^ k := by rw [Nat.pow_succ, Nat.mul_comm]
    have e : q * 10 ^ (k + 1) + r = 10 * (q * 10 ^ k) + r := by rw [h10, Nat.mul_left_comm]
    have hpos : 1 ≤ q * 10 ^ k := Nat.mul_pos hq (Nat.pow_pos (by omega))
    rw [decDigits_big (by omega), e, show (10 * (q * 10 ^ k) + r) / 10 = q * 10 ^ k + r / 10 by omega, show (10 * (q * 10 ^ k) + r) % 10 = r % 10 by omega,
      ih (r / 10) (by rw [h10] at hr; omega), pad, List.append_assoc]
theorem pad_zero (k : Nat) : pad k 0 = List.replicate k 48 := by
  induction k with
  | zero => rfl
  | succ k ih => simp only [pad, Nat.zero_div, ih]; rw [List.replicate_succ']; rfl
theorem nDigits_le {r k : Nat} (hk : 1 ≤ k) (h : r < 10 ^ k) : nDigits r ≤ k := by
  induction k generalizing r with
  | zero => omega
  | succ k ih =>
    by_cases h10 : r < 10
    · rw [nDigits_small h10]; omega
    · rw [nDigits_big h10]
      have hk1 : 1 ≤ k := by
        rcases Nat.eq_zero_or_pos k with h0 | h0
        · subst h0; simp at h; omega
        · exact h0
      have := ih hk1 (r := r / 10) (by rw [Nat.pow_succ] at h; omega)
      omega
theorem pad_eq {k : Nat} (hk : 1 ≤ k) : ∀ r, r < 10 ^ k → pad k r = List.replicate (k - nDigits r) 48 ++ decDigits r := by
  induction k with
  | zero => omega
  | succ k ih =>
    intro r h
    by_cases h10 : r < 10
    · rw [pad, Nat.div_eq_of_lt h10, pad_zero, nDigits_small h10, decDigits_one h10, Nat.mod_eq_of_lt h10]; rfl
    · have hk1 : 1 ≤ k := by
        rcases Nat.eq_zero_or_pos k with h0 | h0
        · subst h0; simp at h; omega
        · exact h0
      have hr : r / 10 < 10 ^ k := by rw [Nat.pow_succ] at h; omega
      have := nDigits_le hk1 hr
      rw [pad, ih hk1 _ hr, decDigits_big h10, nDigits_big h10, List.append_assoc, show k + 1 - (nDigits (r / 10) + 1) = k - nDigits (r / 10) by omega]

/-- chunks, the least first, and the greatest first -/
def le9 : List Nat → Nat
  | [] => 0
  | c :: l => c + 1000000000 * le9 l
def be9 (l : List Nat) : Nat := l.foldl (fun a x => a * 1000000000 + x) 0
theorem be9_snoc (l : List Nat) (x : Nat) : be9 (l ++ [x]) = be9 l * 1000000000 + x := by unfold be9; rw [List.foldl_append]; rfl
theorem be9_reverse (l : List Nat) : be9 l.reverse = le9 l := by
  induction l with
  | nil => rfl
  | cons c l ih => rw [List.reverse_cons, be9_snoc, ih, le9]; omega
theorem le9_snoc (l : List Nat) (x : Nat) : le9 (l ++ [x]) = le9 l + 1000000000 ^ l.length * x := by
  induction l with
  | nil => simp [le9]
  | cons c l ih => simp only [List.cons_append, le9, ih, List.length_cons, Nat.pow_succ]; rw [Nat.mul_add, ← Nat.mul_assoc, Nat.mul_comm 1000000000 (1000000000 ^ l.length)]; omega
def txt : List Nat → List UInt8
  | [] => []
  | c :: r => decDigits c ++ r.flatMap (pad 9)
theorem txt_snoc {l : List Nat} (h : l ≠ []) (x : Nat) : txt (l ++ [x]) = txt l ++ pad 9 x := by
  cases l with
  | nil => exact absurd rfl h
  | cons c r => simp [txt]
theorem txt_eq (n : Nat) : ∀ (l : List Nat), l.length = n → (∀ x ∈ l, x < 1000000000) → ∀ c, 1 ≤ c → txt (c :: l) = decDigits (be9 (c :: l)) ∧ 1 ≤ be9 (c :: l) := by
  induction n with
  | zero =>
    intro l hn _ c hc
    have : l = [] := List.eq_nil_of_length_eq_zero hn
    subst this
    simp [txt, be9]; exact hc
  | succ n ih =>
    intro l hn hl c hc
    rcases List.eq_nil_or_concat l with h | ⟨L, x, h⟩
    · subst h; simp at hn
    · rw [List.concat_eq_append] at h
      subst h
      obtain ⟨i1, i2⟩ := ih L (by simp at hn; exact hn) (fun y hy => hl y (by simp [hy])) c hc
      have hx := hl x (by simp)
      rw [← List.cons_append, txt_snoc (by simp), be9_snoc, i1]
      exact ⟨(decDigits_pad i2 9 x hx).symm, by omega⟩

end Go.Proofs.YtginogcdjplhiaaGreatDoor.Big
