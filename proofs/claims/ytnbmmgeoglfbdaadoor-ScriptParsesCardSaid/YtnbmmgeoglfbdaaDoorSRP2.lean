/- Plain: the reference's valid commands, first lines. -/
import Derived.Test.YtnbmmgeoglfbdaaDoorSRP
set_option linter.unusedVariables false
set_option linter.unusedSimpArgs false
namespace Go.Proofs.YtnbmmgeoglfbdaaDoor.Sc
open Go.Proofs.YtnbmmgeoglfbdaaDoor.Big
open Go.Lib (itoa decDigits)

def namedB (k : Nat) : Bool := k == 6 || k == 11
def cntB (k n : Nat) : Bool := if k = 2 then n == 15 else if k = 6 then decide (n ≤ 1000) else if k = 7 then n == 3 else if k = 8 then n == 1 else n == 0
def endB (t : BL) : Bool := t.isEmpty || t.getLast? == some 10
/-- what One asks -/
def oneC (c : Cmd) : Bool := decide (1 ≤ c.kind) && decide (c.kind ≤ 11) && (namedB c.kind == !c.name.isEmpty) && cntB c.kind c.nums.length && (c.name.isEmpty || isName c.name) && endB c.text && decide (c.text.length ≤ 65536) && (c.kind == 1 || c.text.isEmpty)
theorem one_valid_eq (c : Cmd) : oneC c = validC c := by
  obtain ⟨k, nm, ns, t⟩ := c
  by_cases h1 : 1 ≤ k
  · by_cases h2 : k ≤ 11
    · have : k = 1 ∨ k = 2 ∨ k = 3 ∨ k = 4 ∨ k = 5 ∨ k = 6 ∨ k = 7 ∨ k = 8 ∨ k = 9 ∨ k = 10 ∨ k = 11 := by omega
      have hle : ∀ n : Nat, (decide (0 ≤ n) && decide (n ≤ 0)) = (n == 0) := fun n => by
        cases n with
        | zero => rfl
        | succ n => simp
      have heq : ∀ n m : Nat, (decide (m ≤ n) && decide (n ≤ m)) = (n == m) := fun n m => by
        by_cases e : n = m
        · subst e; simp
        · have : (n == m) = false := by simpa using e
          rw [this]
          rw [Bool.and_eq_false_iff, decide_eq_false_iff_not, decide_eq_false_iff_not]; omega
      have hn : isName [] = false := rfl
      have hz : (ns.length == 0) = decide (ns = []) := by cases ns <;> simp
      have ht : ([] : BL).getLast? = none := rfl
      rcases this with rfl | rfl | rfl | rfl | rfl | rfl | rfl | rfl | rfl | rfl | rfl <;> unfold oneC validC namedB cntB endB textOk fN fT least most <;> cases nm <;> cases t <;> simp [hn, ht] <;> (try rfl)
      all_goals first
        | exact hz
        | exact (heq _ _).symm
        | exact Bool.and_comm _ _
        | (rw [hz]; cases decide (ns = []) <;> simp [Bool.and_comm])
        | (rw [← heq, Bool.and_comm])
    · unfold oneC validC; rw [decide_eq_false h2]; simp
  · unfold oneC validC; rw [decide_eq_false h1]; simp

theorem cntB_iff {i n : Nat} (hi : i < 11) : cntB (i + 1) n = true ↔ ¬ (n < least i ∨ most i < n) := by
  unfold cntB least most
  have : i = 0 ∨ i = 1 ∨ i = 2 ∨ i = 3 ∨ i = 4 ∨ i = 5 ∨ i = 6 ∨ i = 7 ∨ i = 8 ∨ i = 9 ∨ i = 10 := by omega
  rcases this with rfl | rfl | rfl | rfl | rfl | rfl | rfl | rfl | rfl | rfl | rfl <;> simp <;> omega
theorem numsL_snoc : ∀ (a : List BL) (t : BL), numsL (a ++ [t]) = match numsL a with | none => none | some ns => match num t with | none => none | some v => some (ns ++ [v])
  | [], t => by
    show (match num t with | none => none | some v => match numsL [] with | none => none | some l => some (v :: l)) = _
    cases num t <;> rfl
  | f :: r, t => by
    rw [List.cons_append]
    unfold numsL
    rw [numsL_snoc r t]
    cases num f with
    | none => rfl
    | some v =>
      simp only
      cases numsL r with
      | none => rfl
      | some l =>
        simp only
        cases num t <;> rfl
/-- a command's first line, behind its word, as the reference reads it -/
def endI (i : Nat) (nm : BL) (fs : List BL) (k : Nat) : Option (Cmd × Nat) :=
  match numsL fs with | none => none | some ns => if cntB (i + 1) ns.length = true then some (⟨i + 1, nm, ns, []⟩, k) else none
def refTail (i : Nat) (nm : BL) (fs : List BL) : Option (Cmd × Nat) :=
  if i = 0 then (match fs.getLast? with
    | none => none
    | some t => match num t with
      | none => none
      | some v => if v < 0 then none else endI i nm fs.dropLast v.toNat)
  else endI i nm fs 0
theorem tail_cnt {i : Nat} (hi : i < 11) (nm : BL) (ns : List Int) (k : Nat) : tailL i nm ns k = if cntB (i + 1) ns.length = true then some (⟨i + 1, nm, ns, []⟩, k) else none := by
  unfold tailL
  by_cases h : cntB (i + 1) ns.length = true
  · rw [if_pos h, if_neg ((cntB_iff hi).1 h)]
  · rw [if_neg h, if_pos (Classical.not_not.1 fun h' => h ((cntB_iff hi).2 h'))]
theorem refTail_eq {i : Nat} (hi : i < 11) (fs : List BL) : bodyL i fs = match namePart i fs with | none => none | some (nm, fs) => refTail i nm fs := by
  unfold bodyL
  cases namePart i fs with
  | none => rfl
  | some p =>
    obtain ⟨nm, fs⟩ := p
    simp only
    unfold refTail endI
    by_cases h0 : i = 0
    · subst h0
      rw [show fT 0 = true from rfl, if_pos rfl]
      rcases List.eq_nil_or_concat fs with rfl | ⟨a, t, rfl⟩
      · rfl
      · rw [List.concat_eq_append, numsL_snoc, List.getLast?_append]
        simp only [List.getLast?_singleton, Option.some_or, List.dropLast_concat]
        cases numsL a with
        | none =>
          simp only
          cases num t with
          | none => rfl
          | some v => simp
        | some ns =>
          simp only
          cases num t with
          | none => rfl
          | some v =>
            simp only [List.getLast?_append, List.getLast?_singleton, Option.some_or, List.dropLast_concat, if_true]
            by_cases hv : v < 0
            · rw [if_pos hv, if_pos hv]
            · rw [if_neg hv, if_neg hv, tail_cnt (by omega)]
    · rw [show fT i = false by unfold fT; simpa using h0, if_neg h0]
      cases numsL fs with
      | none => rfl
      | some ns => simp only [Bool.false_eq_true, if_false]; exact tail_cnt hi nm ns 0
theorem head_parts (line : BL) : parts 32 line = (headL line).1 :: (headL line).2 := by
  unfold headL
  cases h : cutB 32 line with
  | none => rw [parts_none (cutB_none_iff.1 h)]
  | some p =>
    obtain ⟨a, b⟩ := p
    obtain ⟨e, hn⟩ := cutB_spec h
    simp only
    rw [e, parts_some hn]
/-- the word's number, as the reference finds it -/
def lastW (w : BL) : Nat → Nat
  | 0 => 0
  | k + 1 => if word k = w then k + 1 else lastW w k
theorem findW_last (w : BL) : findW w words 0 = if lastW w 11 = 0 then none else some (lastW w 11 - 1) := by
  by_cases h : ∃ i, i < 11 ∧ word i = w
  · obtain ⟨i, hi, rfl⟩ := h
    rw [find_word i hi]
    have : i = 0 ∨ i = 1 ∨ i = 2 ∨ i = 3 ∨ i = 4 ∨ i = 5 ∨ i = 6 ∨ i = 7 ∨ i = 8 ∨ i = 9 ∨ i = 10 := by omega
    rcases this with rfl | rfl | rfl | rfl | rfl | rfl | rfl | rfl | rfl | rfl | rfl <;> rfl
  · have h1 : ∀ k, k ≤ 11 → lastW w k = 0 := by
      intro k
      induction k with
      | zero => intro _; rfl
      | succ k ih =>
        intro hk
        unfold lastW
        rw [if_neg (fun e => h ⟨k, by omega, e⟩)]
        exact ih (by omega)
    rw [h1 11 (by omega), if_pos rfl]
    cases e : findW w words 0 with
    | none => rfl
    | some i => exact absurd ⟨i, (find_some e).1, (find_some e).2⟩ h
end Go.Proofs.YtnbmmgeoglfbdaaDoor.Sc
