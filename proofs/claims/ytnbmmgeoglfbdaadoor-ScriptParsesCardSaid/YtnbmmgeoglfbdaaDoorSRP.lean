/- Plain: the reference's numbers, parts, first lines. -/
import Derived.Test.YtnbmmgeoglfbdaaDoorSP3
set_option linter.unusedVariables false
set_option linter.unusedSimpArgs false
namespace Go.Proofs.YtnbmmgeoglfbdaaDoor.Sc
open Go.Proofs.YtnbmmgeoglfbdaaDoor.Big
open Go.Lib (itoa decDigits)

def digI (c : UInt8) : Int := (c.toNat : Int) - 48
/-- the negative of the number that the digits write, behind a -/
def vneg : BL → Int → Int
  | [], a => a
  | c :: r, a => vneg r (10 * a - digI c)
theorem vneg_append : ∀ (l m : BL) (a : Int), vneg (l ++ m) a = vneg m (vneg l a)
  | [], m, a => rfl
  | c :: r, m, a => vneg_append r m _
theorem vneg_dec (u : Nat) : vneg (decDigits u) 0 = -(u : Int) := by
  induction u using Nat.strongRecOn with
  | _ u ih =>
    by_cases hu : u < 10
    · rw [decDigits, dif_pos hu]
      show 10 * 0 - digI (UInt8.ofNat (48 + u)) = _
      unfold digI; rw [dig_toNat u hu]; omega
    · rw [decDigits, dif_neg hu, vneg_append, ih (u / 10) (by omega)]
      show 10 * -((u / 10 : Nat) : Int) - digI (UInt8.ofNat (48 + u % 10)) = _
      unfold digI; rw [dig_toNat _ (by omega)]; omega
/-- the digits behind the sign -/
def body (l : BL) : BL := match l with | 45 :: r => r | l => l
def w64 (x : Int) : Int := (x + 9223372036854775808) % 18446744073709551616 - 9223372036854775808
theorem w64_in {x : Int} (h : inI x) : w64 x = x := by obtain ⟨h1, h2⟩ := h; unfold w64; omega
theorem w64_range (x : Int) : inI (w64 x) := by unfold w64 inI; omega
theorem w64_step (a d : Int) : w64 (w64 (10 * w64 a) - d) = w64 (10 * a - d) := by unfold w64; omega
theorem w64_neg (a : Int) : w64 (0 - w64 a) = w64 (-a) := by unfold w64; omega
def isNeg (l : BL) : Bool := l.head? == some 45
/-- what value reckons -/
def valI (l : BL) : Int := if isNeg l = true then w64 (vneg (l.drop 1) 0) else w64 (-(vneg l 0))
theorem dec_head {u : Nat} : (decDigits u).head? ≠ some 45 := by
  intro h
  cases e : decDigits u with
  | nil => exact dec_ne u e
  | cons c r =>
    rw [e] at h
    have := (dec_parse u).2 c r e
    injection h with h
    subst h
    exact this.2 rfl
theorem valI_itoa {v : Int} (h : inI v) : valI (itoa v) = v := by
  unfold valI
  by_cases hv : v < 0
  · have e : itoa v = 45 :: decDigits v.natAbs := by
      have := Lib.itoa_neg v.natAbs (by omega)
      rwa [show -((v.natAbs : Nat) : Int) = v by omega] at this
    rw [e, show isNeg (45 :: decDigits v.natAbs) = true from rfl, if_pos rfl, List.drop_succ_cons, List.drop_zero, vneg_dec, show -((v.natAbs : Nat) : Int) = v by omega, w64_in h]
  · have e : itoa v = decDigits v.natAbs := by
      have := Lib.itoa_nonneg v.natAbs
      rwa [show ((v.natAbs : Nat) : Int) = v by omega] at this
    have hn : isNeg (decDigits v.natAbs) = false := by
      unfold isNeg
      have := dec_head (u := v.natAbs)
      simpa using this
    rw [e, hn, if_neg (by decide), vneg_dec, show -(-((v.natAbs : Nat) : Int)) = v by omega, w64_in h]
/-- all characters are digits, but for a sign ahead -/
def spelt (l : BL) : Bool := (if isNeg l = true then l.drop 1 else l).all fun c => 48 ≤ c.toNat && c.toNat ≤ 57
theorem spelt_itoa (v : Int) : spelt (itoa v) = true := by
  unfold spelt
  have key : ∀ u, ((decDigits u).all fun c => decide (48 ≤ c.toNat) && decide (c.toNat ≤ 57)) = true := fun u => List.all_eq_true.2 fun c hc => by
    have := dec_dig u c hc; simp; exact this
  by_cases hv : v < 0
  · have e : itoa v = 45 :: decDigits v.natAbs := by
      have := Lib.itoa_neg v.natAbs (by omega)
      rwa [show -((v.natAbs : Nat) : Int) = v by omega] at this
    rw [e, show isNeg (45 :: decDigits v.natAbs) = true from rfl, if_pos rfl, List.drop_succ_cons, List.drop_zero]
    exact key _
  · have e : itoa v = decDigits v.natAbs := by
      have := Lib.itoa_nonneg v.natAbs
      rwa [show ((v.natAbs : Nat) : Int) = v by omega] at this
    have hn : isNeg (decDigits v.natAbs) = false := by
      unfold isNeg
      have := dec_head (u := v.natAbs)
      simpa using this
    rw [e, hn, if_neg (by decide)]
    exact key _
theorem num_none_of {l : BL} (h : ∀ v, inI v → l ≠ itoa v) : num l = none := by
  cases e : num l with
  | none => rfl
  | some v => exact absurd (num_some e).1 (h v (num_some e).2)
theorem num_long {l : BL} (h : l = [] ∨ 20 < l.length) : num l = none := num_none_of fun v hv e => by
  rcases h with h | h
  · exact itoa_ne v (e ▸ h)
  · rw [e] at h
    have hd : ∀ u, u < 18446744073709551616 → (decDigits u).length ≤ 20 := fun u hu => by rw [Lib.decDigits_length]; exact Lib.nDigits_le20 u hu
    obtain ⟨h1, h2⟩ := hv
    by_cases hv : v < 0
    · have e : itoa v = 45 :: decDigits v.natAbs := by
        have := Lib.itoa_neg v.natAbs (by omega)
        rwa [show -((v.natAbs : Nat) : Int) = v by omega] at this
      rw [e, List.length_cons] at h
      have h19 : (decDigits v.natAbs).length ≤ 19 := by
        have key : ∀ (k u : Nat), u < 10 ^ (k + 1) → (decDigits u).length ≤ k + 1 := by
          intro k
          induction k with
          | zero => intro u hu; rw [decDigits, dif_pos (by simpa using hu)]; simp
          | succ k ih =>
            intro u hu
            by_cases h10 : u < 10
            · rw [decDigits, dif_pos h10]; simp
            · rw [decDigits, dif_neg h10, List.length_append]
              have := ih (u / 10) (by rw [Nat.pow_succ] at hu; omega)
              simp; omega
        exact key 18 v.natAbs (by omega)
      omega
    · have e : itoa v = decDigits v.natAbs := by
        have := Lib.itoa_nonneg v.natAbs
        rwa [show ((v.natAbs : Nat) : Int) = v by omega] at this
      rw [e] at h
      have := hd v.natAbs (by omega)
      omega
theorem num_spelt {l : BL} (h : spelt l = false) : num l = none := num_none_of fun v _ e => by rw [e, spelt_itoa] at h; cases h
/-- num, by the number that value reckons -/
theorem num_valI (l : BL) : (num l).isSome = (itoa (valI l) == l) ∧ ∀ v, num l = some v → valI l = v := by
  have hr : inI (valI l) := by unfold valI; split <;> exact w64_range _
  constructor
  · by_cases h : itoa (valI l) = l
    · have := num_itoa hr
      rw [h] at this
      rw [this, h]; simp
    · have h0 : num l = none := num_none_of fun v hv e => by
        rw [e, valI_itoa hv] at h; exact h rfl
      rw [h0]
      have : (itoa (valI l) == l) = false := by simpa using h
      rw [this]; rfl
  · intro v h
    obtain ⟨e, hv⟩ := num_some h
    rw [e, valI_itoa hv]
end Go.Proofs.YtnbmmgeoglfbdaaDoor.Sc
