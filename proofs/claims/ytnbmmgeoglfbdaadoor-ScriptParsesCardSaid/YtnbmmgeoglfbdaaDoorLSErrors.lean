/- Walk: the law ScriptErrors. -/
import Derived.Test.YtnbmmgeoglfbdaaDoorSAwake
set_option linter.unusedVariables false
set_option linter.unusedSimpArgs false
namespace Go.Proofs.YtnbmmgeoglfbdaaDoor.Sc
open Go.RowKit Go.Proofs.YtnbmmgeoglfbdaaDoor.Big

theorem extract_str (a b : BL) : (str (a ++ b)).extract 0 a.length = str a := by
  have h1 := Lib.extract_toList (str (a ++ b)) 0 a.length
  rw [str_list] at h1
  have h2 : (str (a ++ b)).extract 0 a.length = str ((str (a ++ b)).extract 0 a.length).data.toList := (str_of _).symm
  rw [h2, ← Lib.toList_data, h1]; simp
theorem step_code {t : BL} {e : Nat} (h : step t = .err e) : e = 3 ∨ e = 4 := by
  unfold step at h
  split at h
  · injection h with h; exact .inr h.symm
  · split at h
    · injection h with h; exact .inl h.symm
    · split at h
      · injection h with h; exact .inr h.symm
      · split at h
        · injection h with h; exact .inl h.symm
        · cases h
theorem formatL_min {l : List Cmd} (h : Good l) : l.length * 4 ≤ (formatL l).length := by
  induction l with
  | nil => simp
  | cons c r ih =>
    have := ih h.tail
    obtain ⟨v1, v2, _⟩ := validC_iff.1 (h c (by simp)).1
    have hw := word_len (c.kind - 1) (by omega)
    have : 4 ≤ (formatC c).length := by
      unfold formatC lineC
      simp only [List.length_append, List.length_cons]; omega
    rw [formatL_cons]; simp; omega
theorem cut_of_split {m : Nat} {r u t : BL} (h : splitL (m + 1) r = some (u, t)) : ∃ a b u', cutB 10 r = some (a, b) ∧ splitL m b = some (u', t) ∧ u = a ++ 10 :: u' := by
  rw [splitL_step] at h
  cases hc : cutB 10 r with
  | none => rw [hc] at h; cases h
  | some p =>
    obtain ⟨a, b⟩ := p
    rw [hc] at h
    simp only [Option.map_eq_some_iff] at h
    obtain ⟨⟨u', t'⟩, h1, h2⟩ := h
    injection h2 with h2 h3
    exact ⟨a, b, u', rfl, by rw [h1, ← h3], h2.symm⟩
end Go.Proofs.YtnbmmgeoglfbdaaDoor.Sc
