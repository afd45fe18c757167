/- Scripts in plain Lean: what parsing says of whole texts. -/
import Derived.Test.YtnbmmgeoglfbdaaDoorSP2
set_option linter.unusedVariables false
set_option linter.unusedSimpArgs false
namespace Go.Proofs.YtnbmmgeoglfbdaaDoor.Sc
open Go.Proofs.YtnbmmgeoglfbdaaDoor.Big
open Go.Lib (itoa decDigits)

def linesL (l : List Cmd) : Nat := (l.map fun c => 1 + nl c.text).sum
def Good (l : List Cmd) : Prop := ∀ c ∈ l, validC c = true ∧ NumsIn c
theorem linesL_cons (c : Cmd) (l : List Cmd) : linesL (c :: l) = (1 + nl c.text) + linesL l := by simp [linesL]
theorem linesL_append (a b : List Cmd) : linesL (a ++ b) = linesL a + linesL b := by simp [linesL]
theorem formatL_cons (c : Cmd) (l : List Cmd) : formatL (c :: l) = formatC c ++ formatL l := rfl
theorem formatL_append (a b : List Cmd) : formatL (a ++ b) = formatL a ++ formatL b := by simp [formatL]
theorem formatC_ne (c : Cmd) : formatC c ≠ [] := by unfold formatC; simp
theorem formatC_len (c : Cmd) : 1 ≤ (formatC c).length := by unfold formatC; simp; omega
theorem word_len (i : Nat) (hi : i < 11) : 3 ≤ (word i).length ∧ (word i).length ≤ 7 := by
  have : ∀ i : Fin 11, 3 ≤ (word i.1).length ∧ (word i.1).length ≤ 7 := by decide
  exact this ⟨i, hi⟩
theorem Good.tail {c : Cmd} {l : List Cmd} (h : Good (c :: l)) : Good l := fun x hx => h x (by simp [hx])
theorem Good.append {a b : List Cmd} (ha : Good a) (hb : Good b) : Good (a ++ b) := fun x hx => by
  rw [List.mem_append] at hx
  rcases hx with hx | hx
  · exact ha x hx
  · exact hb x hx
theorem Res.app_nil (r : Res) : r.app [] = r := by cases r <;> rfl
theorem Res.cons_app (c : Cmd) (l : List Cmd) (r : Res) : (r.app l).cons c = r.app (c :: l) := by cases r <;> rfl
theorem parseL_fuel : ∀ (f g n a : Nat) (s : BL), s.length < f → s.length < g → parseL f n a s = parseL g n a s
  | 0, g, n, a, s, h, _ => by omega
  | f + 1, 0, n, a, s, _, h => by omega
  | f + 1, g + 1, n, a, s, h1, h2 => by
    unfold parseL
    by_cases h0 : s = []
    · rw [if_pos h0, if_pos h0]
    · rw [if_neg h0, if_neg h0]
      by_cases hn : n = 1000
      · rw [if_pos hn, if_pos hn]
      · rw [if_neg hn, if_neg hn]
        cases hs : step s with
        | err e => rfl
        | ok c k r =>
          simp only []
          obtain ⟨hs2, _, _, _⟩ := step_inv hs
          have := formatC_len c
          have hl : s.length = (formatC c).length + r.length := by rw [hs2, List.length_append]
          rw [parseL_fuel f g (n + 1) (a + k) r (by omega) (by omega)]
theorem parseL_format : ∀ (l : List Cmd) (f n a : Nat) (t : BL), Good l → n + l.length ≤ 1000 → (formatL l ++ t).length < f → parseL f n a (formatL l ++ t) = (parseL f (n + l.length) (a + linesL l) t).app l
  | [], f, n, a, t, _, _, _ => by
    rw [Res.app_nil]; rfl
  | c :: l, 0, n, a, t, _, _, h => by omega
  | c :: l, f + 1, n, a, t, hg, hn, hf => by
    have hc := hg c (by simp)
    have hfl := formatC_len c
    rw [formatL_cons, List.append_assoc] at hf ⊢
    conv => lhs; unfold parseL
    rw [if_neg (by simp [formatC_ne]), if_neg (by simp at hn; omega), step_format hc.1 hc.2]
    simp only []
    rw [parseL_format l f (n + 1) _ t hg.tail (by simp at hn; omega) (by simp at hf ⊢; omega), Res.cons_app]
    have e1 : n + 1 + l.length = n + (c :: l).length := by simp; omega
    have e2 : a + (1 + nl c.text) + linesL l = a + linesL (c :: l) := by rw [linesL_cons]; omega
    rw [e1, e2, parseL_fuel f (f + 1) _ _ t (by simp at hf; omega) (by simp at hf; omega)]
theorem parse_format {l : List Cmd} (hg : Good l) (hn : l.length ≤ 1000) : parse (formatL l) = .ok l := by
  have h := parseL_format l ((formatL l).length + 1) 0 1 [] hg (by omega) (by simp)
  rw [List.append_nil] at h
  unfold parse
  rw [h]
  unfold parseL
  simp [Res.app]
theorem parseL_inv : ∀ (f n a : Nat) (s : BL) (l : List Cmd), s.length < f → n ≤ 1000 → parseL f n a s = .ok l → s = formatL l ∧ Good l ∧ n + l.length ≤ 1000
  | 0, n, a, s, l, h, _, _ => by omega
  | f + 1, n, a, s, l, h, hn, hp => by
    unfold parseL at hp
    by_cases h0 : s = []
    · rw [if_pos h0] at hp
      injection hp with hp; subst hp
      exact ⟨h0, (fun c hc => by cases hc), by simpa using hn⟩
    · rw [if_neg h0] at hp
      by_cases h1 : n = 1000
      · rw [if_pos h1] at hp; cases hp
      · rw [if_neg h1] at hp
        cases hs : step s with
        | err e => rw [hs] at hp; cases hp
        | ok c k r =>
          rw [hs] at hp
          simp only [] at hp
          obtain ⟨hs2, hv, hni, _⟩ := step_inv hs
          have hfl := formatC_len c
          have hl : s.length = (formatC c).length + r.length := by rw [hs2, List.length_append]
          cases hr : parseL f (n + 1) (a + k) r with
          | err a e => rw [hr] at hp; cases hp
          | ok l' =>
            rw [hr] at hp
            injection hp with hp
            subst hp
            obtain ⟨h3, h4, h5⟩ := parseL_inv f (n + 1) (a + k) r l' (by omega) (by omega) hr
            refine ⟨by rw [hs2, formatL_cons, ← h3], ?_, by simp; omega⟩
            intro x hx
            simp only [List.mem_cons] at hx
            rcases hx with rfl | hx
            · exact ⟨hv, hni⟩
            · exact h4 x hx
theorem parse_inv {s : BL} {l : List Cmd} (h : parse s = .ok l) : s = formatL l ∧ Good l ∧ l.length ≤ 1000 := by
  obtain ⟨h1, h2, h3⟩ := parseL_inv _ 0 1 s l (by omega) (by omega) h
  exact ⟨h1, h2, by omega⟩
theorem parseL_err : ∀ (f n a : Nat) (s : BL) (b e : Nat), s.length < f → n ≤ 1000 → parseL f n a s = .err b e → ∃ l t, s = formatL l ++ t ∧ Good l ∧ t ≠ [] ∧ b = a + linesL l ∧ n + l.length ≤ 1000 ∧ (n + l.length = 1000 ∧ e = 5 ∨ n + l.length < 1000 ∧ step t = .err e)
  | 0, n, a, s, b, e, h, _, _ => by omega
  | f + 1, n, a, s, b, e, h, hn, hp => by
    unfold parseL at hp
    by_cases h0 : s = []
    · rw [if_pos h0] at hp; cases hp
    · rw [if_neg h0] at hp
      by_cases h1 : n = 1000
      · rw [if_pos h1] at hp
        injection hp with h2 h3
        exact ⟨[], s, rfl, (fun c hc => by cases hc), h0, by simp [linesL, h2], by simp [h1], .inl ⟨by simp [h1], h3.symm⟩⟩
      · rw [if_neg h1] at hp
        cases hs : step s with
        | err e' =>
          rw [hs] at hp
          injection hp with h2 h3
          exact ⟨[], s, rfl, (fun c hc => by cases hc), h0, by simp [linesL, h2], by simp; omega, .inr ⟨by simp; omega, by rw [← h3]; exact hs⟩⟩
        | ok c k r =>
          rw [hs] at hp
          simp only [] at hp
          obtain ⟨hs2, hv, hni, hk⟩ := step_inv hs
          have hfl := formatC_len c
          have hl : s.length = (formatC c).length + r.length := by rw [hs2, List.length_append]
          cases hr : parseL f (n + 1) (a + k) r with
          | ok l' => rw [hr] at hp; cases hp
          | err a' e' =>
            rw [hr] at hp
            injection hp with h2 h3
            subst h2 h3
            obtain ⟨l, t, h4, h5, h6, h7, h8, h9⟩ := parseL_err f (n + 1) (a + k) r a' e' (by omega) (by omega) hr
            refine ⟨c :: l, t, by rw [hs2, formatL_cons, h4, List.append_assoc], ?_, h6, by rw [h7, linesL_cons, hk]; omega, by simp; omega, ?_⟩
            · intro x hx
              simp only [List.mem_cons] at hx
              rcases hx with rfl | hx
              · exact ⟨hv, hni⟩
              · exact h5 x hx
            · simp only [List.length_cons]
              rcases h9 with ⟨a1, a2⟩ | ⟨a1, a2⟩
              · exact .inl ⟨by omega, a2⟩
              · exact .inr ⟨by omega, a2⟩
theorem parse_err {s : BL} {b e : Nat} (h : parse s = .err b e) : ∃ l t, s = formatL l ++ t ∧ Good l ∧ t ≠ [] ∧ b = 1 + linesL l ∧ l.length ≤ 1000 ∧ (l.length = 1000 ∧ e = 5 ∨ l.length < 1000 ∧ step t = .err e) := by
  obtain ⟨l, t, h1, h2, h3, h4, h5, h6⟩ := parseL_err _ 0 1 s b e (by omega) (by omega) h
  exact ⟨l, t, h1, h2, h3, h4, by omega, by simpa using h6⟩
theorem parse_step_err {t : BL} {e : Nat} (h0 : t ≠ []) (h : step t = .err e) : parse t = .err 1 e := by
  unfold parse parseL
  rw [if_neg h0, if_neg (by omega), h]
theorem parse_app_err {l : List Cmd} {t : BL} {e : Nat} (hg : Good l) (hl : l.length < 1000) (h0 : t ≠ []) (h : step t = .err e) : parse (formatL l ++ t) = .err (1 + linesL l) e := by
  unfold parse
  rw [parseL_format l _ 0 1 t hg (by omega) (by omega)]
  unfold parseL
  rw [if_neg h0, if_neg (by omega), h]; rfl
/- lines of a text form -/
theorem nl_append (a b : BL) : nl (a ++ b) = nl a + nl b := List.count_append
theorem nl_formatC {c : Cmd} (h : validC c = true) : nl (formatC c) = 1 + nl c.text := by
  unfold formatC
  rw [nl_append]
  have h0 : nl (lineC c) = 0 := List.count_eq_zero.2 (lineC_no h)
  rw [h0]
  unfold nl
  rw [List.count_cons_self]; omega
theorem nl_formatL : ∀ {l : List Cmd}, Good l → nl (formatL l) = linesL l
  | [], _ => rfl
  | c :: l, h => by rw [formatL_cons, nl_append, nl_formatC (h c (by simp)).1, nl_formatL h.tail, linesL_cons]
theorem formatC_end {c : Cmd} (h : validC c = true) : (formatC c).getLast? = some 10 := by
  unfold formatC
  rw [List.getLast?_append]
  rcases validC_textEnd h with h0 | h0
  · rw [h0]; rfl
  · cases ht : c.text with
    | nil => rfl
    | cons x r => rw [ht] at h0; rw [List.getLast?_cons_cons, h0]; rfl
theorem formatL_end : ∀ {l : List Cmd}, Good l → formatL l = [] ∨ (formatL l).getLast? = some 10
  | [], _ => .inl rfl
  | c :: l, h => by
    right
    rw [formatL_cons, List.getLast?_append]
    rcases formatL_end h.tail with h0 | h0
    · rw [h0]; simp [formatC_end (h c (by simp)).1]
    · rw [h0]; rfl
theorem split_formatL {l : List Cmd} (h : Good l) (t : BL) : splitL (linesL l) (formatL l ++ t) = some (formatL l, t) := by
  rw [← nl_formatL h]; exact splitL_text _ _ (formatL_end h)
/-- cutting a text form -/
theorem splitL_none : ∀ {n : Nat} {s : BL}, nl s < n → splitL n s = none
  | 0, s, h => by omega
  | n + 1, s, h => by
    unfold splitL
    cases hc : cutB 10 s with
    | none => rfl
    | some p =>
      obtain ⟨a, b⟩ := p
      obtain ⟨rfl, ha⟩ := cutB_spec hc
      simp only []
      rw [splitL_none (n := n) (s := b)]
      · rfl
      · unfold nl at h ⊢
        rw [List.count_append, List.count_eq_zero.2 ha, List.count_cons_self] at h; omega
theorem step_prefix {c : Cmd} (h : validC c = true) (hn : NumsIn c) {p q : BL} (hpq : p ++ q = formatC c) (hp : p ≠ []) (hq : q ≠ []) : step p = .err 4 := by
  unfold formatC at hpq
  have hno := lineC_no h
  rw [List.append_eq_append_iff] at hpq
  rcases hpq with ⟨a', h1, h2⟩ | ⟨c', h1, h2⟩
  · unfold step
    rw [cutB_none]
    rw [h1, List.mem_append] at hno
    exact fun hm => hno (.inl hm)
  · cases c' with
    | nil =>
      rw [List.append_nil] at h1
      unfold step
      rw [h1, cutB_none hno]
    | cons x r =>
      rw [List.cons_append] at h2
      injection h2 with h3 h4
      subst h3
      unfold step
      rw [h1, cutB_some hno]
      simp only []
      rw [validC_first h hn]
      simp only []
      rw [splitL_none]
      rw [h4, nl_append]
      have : 0 < nl q := by
        have he := validC_textEnd h
        rw [h4] at he
        rcases he with he | he
        · exact absurd (List.append_eq_nil_iff.1 he).2 hq
        · rw [List.getLast?_append] at he
          cases hq2 : q.getLast? with
          | none => rw [List.getLast?_eq_none_iff] at hq2; exact absurd hq2 hq
          | some y =>
            rw [hq2] at he
            injection he with he; subst he
            exact List.count_pos_iff.2 (List.mem_of_getLast? hq2)
      omega
theorem validL_iff {l : List Cmd} : validL l = true ↔ l.length ≤ 1000 ∧ ∀ c ∈ l, validC c = true := by
  unfold validL
  rw [Bool.and_eq_true, decide_eq_true_eq, List.all_eq_true]
end Go.Proofs.YtnbmmgeoglfbdaaDoor.Sc
