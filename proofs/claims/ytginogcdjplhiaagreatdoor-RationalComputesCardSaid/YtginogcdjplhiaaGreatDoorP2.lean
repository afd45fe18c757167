/- Plain: the texts of rational numbers. -/
import Derived.Test.YtginogcdjplhiaaGreatDoorQR
import Derived.Test.YtginogcdjplhiaaGreatDoorP1
import Derived.Lib.IndexMore
set_option linter.unusedVariables false
set_option linter.unusedSimpArgs false
namespace Go.Proofs.YtginogcdjplhiaaGreatDoor.Rt
open Go.Proofs.YtginogcdjplhiaaGreatDoor.Big
open Go.Lib (decDigits decDigits_one itoa)

theorem dec_ind {p : Nat → Prop} (h1 : ∀ n, n < 10 → p n) (h2 : ∀ n, ¬ n < 10 → p (n / 10) → p n) : ∀ n, p n := by
  intro n
  induction n using Nat.strongRecOn with
  | _ n ih =>
    by_cases h : n < 10
    · exact h1 n h
    · exact h2 n h (ih _ (by omega))
theorem digit_ok {d : Nat} (h : d < 10) : (48 : UInt8) ≤ UInt8.ofNat (48 + d) ∧ UInt8.ofNat (48 + d) ≤ 57 ∧ (UInt8.ofNat (48 + d)).toNat = 48 + d := by
  have e : (UInt8.ofNat (48 + d)).toNat = 48 + d := by simp; omega
  refine ⟨?_, ?_, e⟩ <;> rw [UInt8.le_iff_toNat_le, e] <;> simp <;> omega
theorem digs_dec (n : Nat) : digs (decDigits n) = true := by
  refine dec_ind (p := fun n => digs (decDigits n) = true) ?_ ?_ n
  · intro n h
    obtain ⟨a, b, _⟩ := digit_ok h
    rw [decDigits_one h]; unfold digs; rw [List.all_cons, List.all_nil, decide_eq_true a, decide_eq_true b]; rfl
  · intro n h ih
    obtain ⟨a, b, _⟩ := digit_ok (show n % 10 < 10 by omega)
    rw [decDigits_big h, digs_append, ih]; unfold digs; rw [List.all_cons, List.all_nil, decide_eq_true a, decide_eq_true b]; rfl
theorem valD_dec (n : Nat) : valD (decDigits n) = n := by
  refine dec_ind (p := fun n => valD (decDigits n) = n) ?_ ?_ n
  · intro n h
    obtain ⟨_, _, e⟩ := digit_ok h
    rw [decDigits_one h, valD_one, e]; omega
  · intro n h ih
    obtain ⟨_, _, e⟩ := digit_ok (show n % 10 < 10 by omega)
    rw [decDigits_big h, valD_append, ih, valD_one, e]; simp; omega
theorem dec_ne (n : Nat) : decDigits n ≠ [] := by
  by_cases h : n < 10
  · rw [decDigits_one h]; simp
  · rw [decDigits_big h]; simp
theorem digs_neg {l : List UInt8} (h : digs l = true) : negd l = false := by
  unfold negd Lib.hasPrefix
  cases l with
  | nil => rfl
  | cons c t =>
    have := (digs_get h (j := 0) (by simp)).1
    simp only [List.getElem_cons_zero] at this
    simp [List.isPrefixOf]
    intro hc; subst hc; simp at this
theorem rest_pos {l : List UInt8} (h : negd l = false) : rest l = l := by unfold negd at h; unfold rest Lib.trimPrefix; rw [h]; rfl
theorem parse_itoa (z : Int) : parseZ (itoa z) = z := by
  rcases Int.lt_or_le z 0 with h | h
  · obtain ⟨u, rfl⟩ : ∃ u : Nat, z = -(u : Int) := ⟨z.natAbs, by omega⟩
    rw [Lib.itoa_neg u (by omega)]
    have h1 : negd (45 :: decDigits u) = true := by simp [negd, Lib.hasPrefix, List.isPrefixOf]
    have h2 : rest (45 :: decDigits u) = decDigits u := by unfold rest Lib.trimPrefix; unfold negd at h1; rw [h1]; rfl
    unfold parseZ sgn
    rw [h1, h2, valD_dec]; rfl
  · obtain ⟨u, rfl⟩ : ∃ u : Nat, z = (u : Int) := ⟨z.natAbs, by omega⟩
    rw [Lib.itoa_nonneg u]
    have h1 := digs_neg (digs_dec u)
    unfold parseZ sgn
    rw [h1, rest_pos h1, valD_dec]; rfl
theorem itoa_inj {x y : Int} (h : itoa x = itoa y) : x = y := by rw [← parse_itoa x, h, parse_itoa]
theorem digs_slash {l : List UInt8} (h : digs l = true) : (47 : UInt8) ∉ l := by
  intro hm
  unfold digs at h
  rw [List.all_eq_true] at h
  exact absurd (h _ hm) (by decide)
theorem itoa_slash (z : Int) : (47 : UInt8) ∉ itoa z := by
  rcases Int.lt_or_le z 0 with h | h
  · obtain ⟨u, rfl⟩ : ∃ u : Nat, z = -(u : Int) := ⟨z.natAbs, by omega⟩
    rw [Lib.itoa_neg u (by omega)]
    have := digs_slash (digs_dec u)
    simp [this]
  · obtain ⟨u, rfl⟩ : ∃ u : Nat, z = (u : Int) := ⟨z.natAbs, by omega⟩
    rw [Lib.itoa_nonneg u]
    exact digs_slash (digs_dec u)
theorem dec_slash {l : List UInt8} (h : isDec l = true) : (47 : UInt8) ∉ l := by rw [← itoa_parse h]; exact itoa_slash _
theorem split_uniq {a b c d : List UInt8} (ha : (47 : UInt8) ∉ a) (hc : (47 : UInt8) ∉ c) (h : a ++ 47 :: b = c ++ 47 :: d) : a = c ∧ b = d := by
  induction a generalizing c with
  | nil =>
    cases c with
    | nil => simpa using h
    | cons x c => simp at h; exact absurd (by rw [← h.1]; simp) hc
  | cons y a ih =>
    cases c with
    | nil => simp at h; exact absurd (by rw [h.1]; simp) ha
    | cons x c =>
      simp only [List.cons_append, List.cons.injEq] at h
      obtain ⟨h1, h2⟩ := ih (fun hm => ha (by simp [hm])) (fun hm => hc (by simp [hm])) h.2
      exact ⟨by rw [h.1, h1], h2⟩
/-- the first slash of a text -/
theorem occ_slash (l : List UInt8) (i : Nat) : Lib.occAt l [47] i = true ↔ l[i]? = some 47 := by
  unfold Lib.occAt
  cases h : l.drop i with
  | nil =>
    have : l.length ≤ i := by simpa using h
    rw [List.getElem?_eq_none this]
    simp [List.isPrefixOf]
  | cons c t =>
    have e : l[i]? = some c := by
      have := congrArg (fun m => m[0]?) h
      simpa using this
    rw [e]
    show ((47 : UInt8) == c && List.isPrefixOf [] t) = true ↔ _
    rw [show List.isPrefixOf ([] : List UInt8) t = true by cases t <;> rfl, Bool.and_true, beq_iff_eq, Option.some.injEq]
    exact eq_comm
theorem cut_cases (l : List UInt8) : ((47 : UInt8) ∉ l ∧ Lib.cut l [47] = (l, [], false)) ∨ ∃ a b, (47 : UInt8) ∉ a ∧ l = a ++ 47 :: b ∧ Lib.cut l [47] = (a, b, true) := by
  unfold Lib.cut
  rcases Lib.index_spec l [47] with ⟨h1, h2⟩ | ⟨i, h1, h2, h3, h4⟩
  · refine .inl ⟨?_, by rw [h1]; rfl⟩
    intro hm
    obtain ⟨i, hi, e⟩ := List.mem_iff_getElem.1 hm
    have := h2 i (by omega)
    have h5 := (occ_slash l i).2 (by rw [List.getElem?_eq_getElem hi, e])
    rw [this] at h5; cases h5
  · refine .inr ⟨l.take i, l.drop (i + 1), ?_, ?_, ?_⟩
    · intro hm
      obtain ⟨j, hj, e⟩ := List.mem_iff_getElem.1 hm
      have hj' : j < i ∧ j < l.length := by rw [List.length_take] at hj; omega
      rw [List.getElem_take] at e
      have h5 := (occ_slash l j).2 (by rw [List.getElem?_eq_getElem hj'.2, e])
      have := h4 j hj'.1
      rw [this] at h5; cases h5
    · have h5 := (occ_slash l i).1 h3
      obtain ⟨hi, e⟩ := List.getElem?_eq_some_iff.1 h5
      have := List.take_append_drop i l
      rw [List.drop_eq_getElem_cons hi, e] at this
      exact this.symm
    · rw [h1, if_pos (by omega), Int.toNat_natCast]; rfl

def isRat (l : List UInt8) : Bool :=
  if (Lib.cut l [47]).2.2 then isDec (Lib.cut l [47]).1 && isDec (Lib.cut l [47]).2.1 && decide (1 < parseZ (Lib.cut l [47]).2.1) && decide (Nat.gcd (parseZ (Lib.cut l [47]).1).natAbs (parseZ (Lib.cut l [47]).2.1).natAbs = 1)
  else isDec (Lib.cut l [47]).1
def parseQ (l : List UInt8) : Rat := Rat.divInt (parseZ (Lib.cut l [47]).1) (if (Lib.cut l [47]).2.2 then parseZ (Lib.cut l [47]).2.1 else 1)
def ratText (q : Rat) : List UInt8 := if q.den = 1 then itoa q.num else itoa q.num ++ 47 :: itoa (q.den : Int)
theorem red_one {n d : Int} (hd : 0 < d) (hg : Nat.gcd n.natAbs d.natAbs = 1) : (Rat.divInt n d).num = n ∧ ((Rat.divInt n d).den : Int) = d := by
  obtain ⟨a, b⟩ := red_pos (n := n) hd
  rw [hg] at a b
  exact ⟨by rw [a]; exact Int.tdiv_one _, by rw [b]; exact Int.tdiv_one _⟩
theorem divInt_one' (n : Int) : (Rat.divInt n 1).num = n ∧ (Rat.divInt n 1).den = 1 := by
  obtain ⟨a, b⟩ := red_one (n := n) (d := 1) (by omega) (by simp)
  exact ⟨a, by omega⟩
theorem text_parse {l : List UInt8} (h : isRat l = true) : ratText (parseQ l) = l := by
  unfold isRat at h
  unfold parseQ ratText
  rcases cut_cases l with ⟨_, e⟩ | ⟨a, b, _, hl, e⟩
  · rw [e] at h ⊢
    simp only [Bool.false_eq_true, if_false] at h ⊢
    obtain ⟨h1, h2⟩ := divInt_one' (parseZ l)
    rw [h1, h2, if_pos rfl, itoa_parse h]
  · rw [e] at h ⊢
    simp only [if_true, Bool.and_eq_true, decide_eq_true_eq] at h ⊢
    obtain ⟨⟨⟨h1, h2⟩, h3⟩, h4⟩ := h
    obtain ⟨h5, h6⟩ := red_one (show 0 < parseZ b by omega) h4
    rw [if_neg (by omega), h5, h6, itoa_parse h1, itoa_parse h2, hl]
/-- what the reference asks of a text -/
theorem isRat_iff (l : List UInt8) : isRat l = true ↔
    (((Lib.cut l [47]).2.2 = false ∧ isDec (Lib.cut l [47]).1 = true) ∨ ((Lib.cut l [47]).2.2 = true ∧ isDec (Lib.cut l [47]).1 = true ∧ isDec (Lib.cut l [47]).2.1 = true ∧ 0 < parseZ (Lib.cut l [47]).2.1 ∧ ratText (parseQ l) = l)) := by
  constructor
  · intro h
    have ht := text_parse h
    unfold isRat at h
    cases e : (Lib.cut l [47]).2.2 with
    | false => rw [e] at h; exact .inl ⟨rfl, by simpa using h⟩
    | true =>
      rw [e] at h
      simp only [if_true, Bool.and_eq_true, decide_eq_true_eq] at h
      obtain ⟨⟨⟨h1, h2⟩, h3⟩, h4⟩ := h
      exact .inr ⟨rfl, h1, h2, by omega, ht⟩
  · rintro (⟨e, h⟩ | ⟨e, h1, h2, h3, h4⟩)
    · unfold isRat; rw [e]; simpa using h
    · rcases cut_cases l with ⟨_, e'⟩ | ⟨a, b, ha, hl, e'⟩
      · rw [e'] at e; cases e
      · unfold isRat
        rw [e'] at h1 h2 h3 ⊢
        dsimp only at h1 h2 h3
        simp only [if_true, Bool.and_eq_true, decide_eq_true_eq]
        have hq : parseQ l = Rat.divInt (parseZ a) (parseZ b) := by unfold parseQ; rw [e']; rfl
        rw [hq] at h4
        unfold ratText at h4
        by_cases hd : (Rat.divInt (parseZ a) (parseZ b)).den = 1
        · rw [if_pos hd] at h4
          exact absurd (by rw [h4, hl]; simp) (itoa_slash (Rat.divInt (parseZ a) (parseZ b)).num)
        · rw [if_neg hd, hl] at h4
          obtain ⟨k1, k2⟩ := split_uniq (itoa_slash _) ha h4
          have k1 := itoa_inj (k1.trans (itoa_parse h1).symm)
          have k2 := itoa_inj (k2.trans (itoa_parse h2).symm)
          have hred := (Rat.divInt (parseZ a) (parseZ b)).reduced
          unfold Nat.Coprime at hred
          rw [k1] at hred
          have k3 : (Rat.divInt (parseZ a) (parseZ b)).den = (parseZ b).natAbs := by omega
          rw [k3] at hred
          exact ⟨⟨⟨h1, h2⟩, by omega⟩, hred⟩
end Go.Proofs.YtginogcdjplhiaaGreatDoor.Rt
