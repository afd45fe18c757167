/- Plain: Lean's rational numbers by numerator and denominator, as the program reckons them. -/
import Derived.Below
set_option linter.unusedVariables false
set_option linter.unusedSimpArgs false
namespace Go.Proofs.YtginogcdjplhiaaGreatDoor.Rt

theorem red_pos {n d : Int} (hd : 0 < d) : (Rat.divInt n d).num = n.tdiv ((Nat.gcd n.natAbs d.natAbs : Nat) : Int) ∧ ((Rat.divInt n d).den : Int) = d.tdiv ((Nat.gcd n.natAbs d.natAbs : Nat) : Int) := by
  have hg : d.gcd n = Nat.gcd n.natAbs d.natAbs := Nat.gcd_comm _ _
  have h1 : ((Nat.gcd n.natAbs d.natAbs : Nat) : Int) ∣ n := Int.natAbs_dvd_natAbs.1 (by rw [Int.natAbs_natCast]; exact Nat.gcd_dvd_left _ _)
  have h2 : ((Nat.gcd n.natAbs d.natAbs : Nat) : Int) ∣ d := Int.natAbs_dvd_natAbs.1 (by rw [Int.natAbs_natCast]; exact Nat.gcd_dvd_right _ _)
  refine ⟨?_, ?_⟩
  · rw [Rat.num_divInt, Int.sign_eq_one_of_pos hd, Int.one_mul, hg, Int.tdiv_eq_ediv_of_dvd h1]
  · rw [Rat.den_divInt, if_neg (by omega), hg, Int.tdiv_eq_ediv_of_dvd h2, Int.natCast_ediv]
    congr 1
    omega
theorem add_eq (x y : Rat) : x + y = Rat.divInt (x.num * y.den + y.num * x.den) (x.den * y.den) := by
  conv => lhs; rw [← Rat.num_divInt_den x, ← Rat.num_divInt_den y]
  exact Rat.divInt_add_divInt _ _ (by have := x.den_pos; omega) (by have := y.den_pos; omega)
theorem mul_eq (x y : Rat) : x * y = Rat.divInt (x.num * y.num) (x.den * y.den) := by
  conv => lhs; rw [← Rat.num_divInt_den x, ← Rat.num_divInt_den y]
  exact Rat.divInt_mul_divInt _ _
theorem div_eq (x y : Rat) : x / y = Rat.divInt (x.num * y.den) (x.den * y.num) := by
  rw [Rat.div_def, Rat.inv_def]
  conv => lhs; rw [← Rat.num_divInt_den x]
  exact Rat.divInt_mul_divInt _ _
/-- what Cmp answers -/
def cmpQ (x y : Rat) : Int := if x < y then -1 else if y < x then 1 else 0
theorem cmpQ_cases (x y : Rat) : (x < y ∧ cmpQ x y = -1) ∨ (x = y ∧ cmpQ x y = 0) ∨ (y < x ∧ cmpQ x y = 1) := by
  unfold cmpQ
  by_cases h : x < y
  · exact .inl ⟨h, by rw [if_pos h]⟩
  · by_cases h2 : y < x
    · exact .inr (.inr ⟨h2, by rw [if_neg h, if_pos h2]⟩)
    · exact .inr (.inl ⟨Rat.le_antisymm (Rat.not_lt.1 h2) (Rat.not_lt.1 h), by rw [if_neg h, if_neg h2]⟩)
theorem cmpQ_self (x : Rat) : cmpQ x x = 0 := by unfold cmpQ; rw [if_neg Rat.lt_irrefl, if_neg Rat.lt_irrefl]
theorem cmpQ_lt {x y : Rat} (h : x < y) : cmpQ x y = -1 := by unfold cmpQ; rw [if_pos h]
theorem cmpQ_gt {x y : Rat} (h : y < x) : cmpQ x y = 1 := by
  unfold cmpQ; rw [if_neg (Rat.not_lt.2 (Rat.le_of_lt h)), if_pos h]
theorem cmpQ_eq (x y : Rat) : cmpQ x y = 0 ↔ x = y := by
  rcases cmpQ_cases x y with ⟨h, e⟩ | ⟨h, e⟩ | ⟨h, e⟩ <;> rw [e]
  · exact ⟨fun h' => absurd h' (by decide), fun h' => absurd h' (Rat.ne_of_lt h)⟩
  · exact ⟨fun _ => h, fun _ => rfl⟩
  · exact ⟨fun h' => absurd h' (by decide), fun h' => absurd h'.symm (Rat.ne_of_lt h)⟩
theorem cmpQ_swap (x y : Rat) : cmpQ x y = -cmpQ y x := by
  rcases cmpQ_cases x y with ⟨h, e⟩ | ⟨h, e⟩ | ⟨h, e⟩
  · rw [e, cmpQ_gt h]
  · subst h; rw [e]; rfl
  · rw [e, cmpQ_lt h]; rfl
theorem cmpQ_add (x y z : Rat) : cmpQ (x + z) (y + z) = cmpQ x y := by
  unfold cmpQ
  simp only [Rat.add_lt_add_right]
theorem sign_num (x : Rat) : (0 < x ∧ x.num.sign = 1) ∨ (x = 0 ∧ x.num.sign = 0) ∨ (x < 0 ∧ x.num.sign = -1) := by
  rcases Int.lt_trichotomy x.num 0 with h | h | h
  · refine .inr (.inr ⟨?_, Int.sign_eq_neg_one_of_neg h⟩)
    have h1 : ¬ 0 ≤ x := fun h' => by have := Rat.num_nonneg.2 h'; omega
    exact Rat.not_le.1 h1
  · have := Rat.num_eq_zero.1 h
    exact .inr (.inl ⟨this, by rw [h]; rfl⟩)
  · refine .inl ⟨?_, Int.sign_eq_one_of_pos h⟩
    refine Rat.lt_of_le_of_ne (Rat.num_nonneg.1 (by omega)) ?_
    intro h0
    rw [← h0] at h
    exact absurd h (by decide)
theorem cmpQ_sub (x y : Rat) : (x - y).num.sign = cmpQ x y := by
  rcases cmpQ_cases x y with ⟨h, e⟩ | ⟨h, e⟩ | ⟨h, e⟩
  · rw [e]
    have h1 : x - y < 0 := by rw [Rat.sub_lt_iff, Rat.zero_add]; exact h
    rcases sign_num (x - y) with ⟨a, b⟩ | ⟨a, b⟩ | ⟨a, b⟩
    · exact absurd (Rat.le_of_lt a) (Rat.not_le.2 h1)
    · rw [a] at h1; exact absurd h1 Rat.lt_irrefl
    · exact b
  · subst h; rw [e, Rat.sub_self]; rfl
  · rw [e]
    have h1 : 0 < x - y := (Rat.lt_iff_sub_pos y x).1 h
    rcases sign_num (x - y) with ⟨a, b⟩ | ⟨a, b⟩ | ⟨a, b⟩
    · exact b
    · rw [a] at h1; exact absurd h1 Rat.lt_irrefl
    · exact absurd (Rat.le_of_lt a) (Rat.not_le.2 h1)
theorem cmpQ_mul (x y z : Rat) : cmpQ (x * z) (y * z) = cmpQ x y * z.num.sign := by
  rcases sign_num z with ⟨a, b⟩ | ⟨a, b⟩ | ⟨a, b⟩
  · rw [b, Int.mul_one]; unfold cmpQ; simp only [Rat.mul_lt_mul_right a]
  · rw [b, a, Rat.mul_zero, Rat.mul_zero, Int.mul_zero, cmpQ_self]
  · rw [b]
    have hz : 0 < -z := by have := Rat.neg_lt_neg a; rwa [Rat.neg_zero] at this
    have h1 : ∀ u v : Rat, u * z < v * z ↔ v < u := by
      intro u v
      rw [← Rat.neg_lt_neg_iff, ← Rat.mul_neg, ← Rat.mul_neg]
      exact Rat.mul_lt_mul_right hz
    have h2 : cmpQ (x * z) (y * z) = cmpQ y x := by unfold cmpQ; simp only [h1]
    rw [h2, cmpQ_swap y x]; omega
end Go.Proofs.YtginogcdjplhiaaGreatDoor.Rt
