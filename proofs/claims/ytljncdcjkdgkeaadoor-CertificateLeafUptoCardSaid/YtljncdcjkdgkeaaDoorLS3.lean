/- Walk: pivot. Walk: the entering column. -/
import Derived.Test.YtljncdcjkdgkeaaDoorLT
set_option linter.unusedVariables false
set_option linter.unusedSimpArgs false
namespace Go.Proofs.YtljncdcjkdgkeaaDoor.Lp
open Go.RowKit Go.Proofs.YtljncdcjkdgkeaaDoor.Big Go.Proofs.YtljncdcjkdgkeaaDoor.Rt

theorem QB0 {k : Nat} (hk : 0 < k) : QB k 0 := by
  refine ⟨?_, ?_⟩
  · show B k 0
    have := pw_le hk; rw [pw_one] at this; unfold B; simp; omega
  · exact B_one hk
/-- the rows during a pivot: row r and those below i are done -/
def pvT (R : Nat → Nat → Rat) (r c i : Nat) (k j : Nat) : Rat := if k = r ∨ k < i then pvR R r c k j else R k j
end Go.Proofs.YtljncdcjkdgkeaaDoor.Lp

namespace Go.Proofs.YtljncdcjkdgkeaaDoor.Lp
open Go.RowKit Go.Proofs.YtljncdcjkdgkeaaDoor.Big Go.Proofs.YtljncdcjkdgkeaaDoor.Rt

/-- an index, or -1 -/
def optI : Option Nat → Int | none => -1 | some k => (k : Int)
theorem entL_ge {C : Nat → Rat} {f : Bool} {j : Nat} (h : ¬ C j < 0) : entL C f (j + 1) = entL C f j := by
  show (match entL C f j with | none => if C j < 0 then some j else none | some k => if f = true then some k else if C j < 0 ∧ C j < C k then some j else some k) = _
  split
  · next e => rw [if_neg h, e]
  · next k e => rw [e, if_neg (c := C j < 0 ∧ C j < C k) (fun h' => h h'.1)]; split <;> rfl
theorem entL_first {C : Nat → Rat} {j n : Nat} (h : entL C true j = none) (h0 : C j < 0) (hn : j < n) : entL C true n = some j := by
  obtain ⟨d, rfl⟩ : ∃ d, n = j + 1 + d := ⟨n - (j + 1), by omega⟩
  clear hn
  induction d with
  | zero =>
    show (match entL C true j with | none => if C j < 0 then some j else none | some k => if true = true then some k else if C j < 0 ∧ C j < C k then some j else some k) = _
    rw [h]; exact if_pos h0
  | succ d ih =>
    show (match entL C true (j + 1 + d) with | none => if C (j + 1 + d) < 0 then some (j + 1 + d) else none | some k => if true = true then some k else if C (j + 1 + d) < 0 ∧ C (j + 1 + d) < C k then some (j + 1 + d) else some k) = _
    rw [ih]; exact if_pos rfl
theorem entL_new {C : Nat → Rat} {f : Bool} {j : Nat} (h : entL C f j = none) (h0 : C j < 0) : entL C f (j + 1) = some j := by
  show (match entL C f j with | none => if C j < 0 then some j else none | some k => if f = true then some k else if C j < 0 ∧ C j < C k then some j else some k) = _
  rw [h]; exact if_pos h0
theorem entL_old {C : Nat → Rat} {j k : Nat} (h : entL C false j = some k) (h0 : C j < 0) : entL C false (j + 1) = if C j < C k then some j else some k := by
  show (match entL C false j with | none => if C j < 0 then some j else none | some k => if false = true then some k else if C j < 0 ∧ C j < C k then some j else some k) = _
  rw [h]
  show (if false = true then some k else if C j < 0 ∧ C j < C k then some j else some k) = _
  rw [if_neg (by decide)]
  by_cases h1 : C j < C k
  · rw [if_pos ⟨h0, h1⟩, if_pos h1]
  · rw [if_neg (fun e => h1 e.2), if_neg h1]
theorem num_neg {q : Rat} : q < 0 ↔ q.num < 0 := by
  rw [← Rat.not_le, ← Int.not_le, Rat.num_nonneg]
def IdxPost (w : World) (o : Option Nat) (e : Ending) (w' : World) : Prop := e = .returned (.int .i64 (optI o)) ∧ Ext w w'
end Go.Proofs.YtljncdcjkdgkeaaDoor.Lp
