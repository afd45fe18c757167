/- Scripts in plain Lean: cutting, numbers, commands, their text form, parsing. -/
import Derived.Test.YtnbmmgeoglfbdaaDoorSMem
import Derived.Lib.AtoiAllCases
import Derived.Lib.ItoaMem
import Derived.Lib.ItoaLen
import Derived.Lib.IndexBytes
import Derived.Lib.IndexMore
set_option linter.unusedVariables false
set_option linter.unusedSimpArgs false
namespace Go.Proofs.YtnbmmgeoglfbdaaDoor.Sc
open Go.Proofs.YtnbmmgeoglfbdaaDoor.Big
open Go.Lib (itoa decDigits)

/-- the list ahead of the first c, and the list behind it -/
def cutB (c : UInt8) : BL → Option (BL × BL)
  | [] => none
  | x :: r => if x = c then some ([], r) else (cutB c r).map fun p => (x :: p.1, p.2)
/-- the parts between c's -/
def parts (c : UInt8) : BL → List BL
  | [] => [[]]
  | x :: r => if x = c then [] :: parts c r else match parts c r with | [] => [[x]] | p :: ps => (x :: p) :: ps
theorem cutB_none {c : UInt8} : ∀ {l : BL}, c ∉ l → cutB c l = none
  | [], _ => rfl
  | x :: r, h => by
    simp only [List.mem_cons, not_or] at h
    unfold cutB
    rw [if_neg (fun e => h.1 e.symm), cutB_none h.2]; rfl
theorem cutB_some {c : UInt8} : ∀ {a : BL} {b : BL}, c ∉ a → cutB c (a ++ c :: b) = some (a, b)
  | [], b, _ => by simp [cutB]
  | x :: r, b, h => by
    simp only [List.mem_cons, not_or] at h
    rw [List.cons_append]
    unfold cutB
    rw [if_neg (fun e => h.1 e.symm), cutB_some h.2]; rfl
theorem cutB_spec {c : UInt8} : ∀ {l a b : BL}, cutB c l = some (a, b) → l = a ++ c :: b ∧ c ∉ a
  | [], a, b, h => by cases h
  | x :: r, a, b, h => by
    unfold cutB at h
    split at h
    · next e => injection h with h; injection h with h1 h2; subst h1 h2 e; simp
    · next e =>
      cases hr : cutB c r with
      | none => rw [hr] at h; cases h
      | some p =>
        obtain ⟨p1, p2⟩ := p
        rw [hr] at h
        injection h with h; injection h with h1 h2
        obtain ⟨h3, h4⟩ := cutB_spec hr
        subst h1 h2
        refine ⟨by rw [h3]; rfl, ?_⟩
        simp only [List.mem_cons, not_or]
        exact ⟨fun e' => e e'.symm, h4⟩
theorem cutB_none_iff {c : UInt8} {l : BL} : cutB c l = none ↔ c ∉ l := by
  refine ⟨fun h hm => ?_, cutB_none⟩
  obtain ⟨a, b, rfl, hn⟩ : ∃ a b, l = a ++ c :: b ∧ c ∉ a := by
    clear h
    induction l with
    | nil => cases hm
    | cons x r ih =>
      by_cases e : x = c
      · exact ⟨[], r, by rw [e]; rfl, by simp⟩
      · obtain ⟨a, b, h1, h2⟩ := ih (by simpa [Ne.symm e] using hm)
        refine ⟨x :: a, b, by rw [h1]; rfl, ?_⟩
        simp only [List.mem_cons, not_or]
        exact ⟨Ne.symm e, h2⟩
  rw [cutB_some hn] at h; cases h
theorem indexByte_eq (c : UInt8) : ∀ (l : BL), Lib.indexByte l c = match cutB c l with | some (a, _) => (a.length : Int) | none => -1
  | [] => rfl
  | x :: r => by
    unfold Lib.indexByte cutB
    by_cases e : x = c
    · simp [e]
    · simp only [e, if_false, beq_iff_eq]
      rw [indexByte_eq c r]
      cases cutB c r with
      | none => simp
      | some p => simp <;> omega
theorem cut_eq (l : BL) (c : UInt8) : Lib.cut l [c] = match cutB c l with | some (a, b) => (a, b, true) | none => (l, [], false) := by
  unfold Lib.cut
  rw [Lib.index_one, indexByte_eq]
  cases h : cutB c l with
  | none => simp
  | some p =>
    obtain ⟨a, b⟩ := p
    obtain ⟨h1, _⟩ := cutB_spec h
    simp only [Int.natCast_nonneg, if_true, Int.toNat_natCast, List.length_singleton]
    subst h1
    rw [List.take_left, show a ++ c :: b = (a ++ [c]) ++ b by simp, show a.length + 1 = (a ++ [c]).length by simp, List.drop_left]
theorem parts_ne (c : UInt8) : ∀ l, parts c l ≠ []
  | [] => by simp [parts]
  | x :: r => by
    unfold parts
    split
    · simp
    · split <;> simp
theorem parts_none {c : UInt8} : ∀ {l : BL}, c ∉ l → parts c l = [l]
  | [], _ => rfl
  | x :: r, h => by
    simp only [List.mem_cons, not_or] at h
    unfold parts
    rw [if_neg (fun e => h.1 e.symm), parts_none h.2]
theorem parts_some {c : UInt8} : ∀ {a b : BL}, c ∉ a → parts c (a ++ c :: b) = a :: parts c b
  | [], b, _ => by simp [parts]
  | x :: r, b, h => by
    simp only [List.mem_cons, not_or] at h
    rw [List.cons_append]
    conv => lhs; unfold parts
    rw [if_neg (fun e => h.1 e.symm), parts_some h.2]
/-- numbers -/
def inI (v : Int) : Prop := -9223372036854775808 ≤ v ∧ v ≤ 9223372036854775807
def num (l : BL) : Option Int := match Lib.atoiAll l with | .ok v => if itoa v = l then some v else none | _ => none
theorem parseUint10_append : ∀ (l m : BL) (acc : Nat), Lib.parseUint10 acc (l ++ m) = match Lib.parseUint10 acc l with | .ok a => Lib.parseUint10 a m | .syntax => .syntax | .range => .range
  | [], m, acc => rfl
  | c :: r, m, acc => by
    rw [List.cons_append]
    simp only [Lib.parseUint10]
    by_cases h1 : 48 ≤ c.toNat ∧ c.toNat ≤ 57
    · by_cases h2 : 1844674407370955162 ≤ acc
      · simp only [h1, h2, if_true, and_self]
      · by_cases h3 : 18446744073709551616 ≤ acc * 10 + (c.toNat - 48)
        · simp only [h1, h2, h3, if_true, and_self, if_false]
        · simp only [h1, h2, h3, if_true, and_self, if_false]
          exact parseUint10_append r m _
    · simp only [h1, if_false]
theorem dig_toNat (k : Nat) (h : k < 10) : (UInt8.ofNat (48 + k)).toNat = 48 + k := by
  simp [UInt8.toNat_ofNat']; omega
theorem parse_dec (u : Nat) (h : u < 18446744073709551616) : Lib.parseUint10 0 (decDigits u) = .ok u := by
  induction u using Nat.strongRecOn with
  | _ u ih =>
    by_cases hu : u < 10
    · rw [decDigits, dif_pos hu]
      simp only [Lib.parseUint10, dig_toNat u hu]
      rw [if_pos (by omega), if_neg (by omega), if_neg (by omega)]
      congr 1; omega
    · rw [decDigits, dif_neg hu, parseUint10_append, ih (u / 10) (by omega) (by omega)]
      have := dig_toNat (u % 10) (by omega)
      simp only [Lib.parseUint10, this]
      rw [if_pos (by omega), if_neg (by omega), if_neg (by omega)]
      congr 1; omega
theorem dec_ne (u : Nat) : decDigits u ≠ [] := by rw [decDigits]; split <;> simp
theorem dec_dig (u : Nat) : ∀ c ∈ decDigits u, 48 ≤ c.toNat ∧ c.toNat ≤ 57 := by
  induction u using Nat.strongRecOn with
  | _ u ih =>
    intro c hc
    by_cases hu : u < 10
    · rw [decDigits, dif_pos hu] at hc
      simp only [List.mem_singleton] at hc
      subst hc; rw [dig_toNat u hu]; omega
    · rw [decDigits, dif_neg hu] at hc
      simp only [List.mem_append, List.mem_singleton] at hc
      rcases hc with hc | hc
      · exact ih (u / 10) (by omega) c hc
      · subst hc; rw [dig_toNat _ (by omega)]; omega
theorem itoa_mem (v : Int) : ∀ c ∈ itoa v, c = 45 ∨ (48 ≤ c.toNat ∧ c.toNat ≤ 57) := by
  intro c hc
  unfold itoa at hc
  split at hc
  · simp only [List.mem_cons] at hc
    rcases hc with hc | hc
    · exact .inl hc
    · exact .inr (dec_dig _ c hc)
  · exact .inr (dec_dig _ c hc)
theorem itoa_no (v : Int) (c : UInt8) (h1 : c ≠ 45) (h2 : c.toNat < 48 ∨ 57 < c.toNat) : c ∉ itoa v := by
  intro hc
  rcases itoa_mem v c hc with h | h
  · exact h1 h
  · omega
theorem itoa_ne (v : Int) : itoa v ≠ [] := by
  unfold itoa; split
  · simp
  · exact dec_ne _
theorem dec_parse : ∀ u, decDigits u ≠ [] ∧ (∀ c r, decDigits u = c :: r → c.toNat ≠ 43 ∧ c.toNat ≠ 45) := fun u => ⟨dec_ne u, fun c r h => by
  have := dec_dig u c (by rw [h]; simp)
  omega⟩
theorem atoi_itoa {v : Int} (h : inI v) : Lib.atoiAll (itoa v) = .ok v := by
  obtain ⟨h1, h2⟩ := h
  unfold itoa
  split
  · next hn =>
    unfold Lib.atoiAll
    simp only []
    have e : (45 : UInt8).toNat = 45 := rfl
    rw [e]
    simp only [or_true, if_true, Lib.parseMag, dec_ne, if_false, parse_dec _ (show v.natAbs < 18446744073709551616 by omega)]
    rw [if_neg (by simp), if_neg (by omega)]
    congr 1; omega
  · next hn =>
    obtain ⟨hne, hc⟩ := dec_parse v.toNat
    cases hd : decDigits v.toNat with
    | nil => exact absurd hd hne
    | cons c r =>
      obtain ⟨c1, c2⟩ := hc c r hd
      unfold Lib.atoiAll
      simp only [c1, c2, or_self, if_false, Lib.parseMag]
      rw [if_neg (by simp), ← hd, parse_dec _ (show v.toNat < 18446744073709551616 by omega)]
      simp only []
      rw [if_neg (by omega), if_neg (by simp)]
      congr 1; omega
theorem num_itoa {v : Int} (h : inI v) : num (itoa v) = some v := by unfold num; rw [atoi_itoa h]; simp
theorem num_some {l : BL} {v : Int} (h : num l = some v) : l = itoa v ∧ inI v := by
  unfold num at h
  split at h
  · next v' hv =>
    split at h
    · next he => injection h with h; subst h; exact ⟨he.symm, Lib.atoiAll_bounds hv⟩
    · cases h
  · cases h
theorem itoa_inj {u v : Int} (hu : inI u) (hv : inI v) (h : itoa u = itoa v) : u = v := by
  have h1 := num_itoa hu
  rw [h, num_itoa hv] at h1
  injection h1 with h1; exact h1.symm
end Go.Proofs.YtnbmmgeoglfbdaaDoor.Sc
