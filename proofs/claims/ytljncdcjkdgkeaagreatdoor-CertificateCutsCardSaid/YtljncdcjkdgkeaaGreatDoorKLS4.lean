/- Walk: the leaving row. -/
import Derived.Test.YtljncdcjkdgkeaaGreatDoorKLT
set_option linter.unusedVariables false
set_option linter.unusedSimpArgs false
namespace Go.Proofs.YtljncdcjkdgkeaaGreatDoor.Lp
open Go.RowKit Go.Proofs.YtljncdcjkdgkeaaGreatDoor.Big Go.Proofs.YtljncdcjkdgkeaaGreatDoor.Rt

theorem num_pos {q : Rat} : 0 < q ↔ 0 < q.num := by
  rw [← Rat.not_le, ← Int.not_le]
  have : q ≤ 0 ↔ q.num ≤ 0 := by
    have h := num_neg (q := q)
    constructor
    · intro hq
      by_cases h0 : q = 0
      · rw [h0]; decide
      · exact Int.le_of_lt (h.1 (by grind))
    · intro hq
      rcases Int.lt_or_eq_of_le hq with h1 | h1
      · exact Rat.le_of_lt (h.2 h1)
      · rw [Rat.num_eq_zero.1 h1]; exact Rat.le_refl
  rw [this]
/-- a rational number in a box of four cells -/
def RBox (w : World) (b : Nat) (q : Rat) (k : Nat) : Prop :=
  ∃ (x y : Bool) (A A' : Option Addr) (d e d' e' : Nat), Box w b 58 #[.bool x, .slice A d e, .bool y, .slice A' d' e'] ∧ RatB w (.agg #[.bool x, .slice A d e, .bool y, .slice A' d' e']) q k
theorem RBox.ext {w w' : World} {b : Nat} {q : Rat} {k : Nat} (h : RBox w b q k) (x : Ext w w') : RBox w' b q k := by
  obtain ⟨x1, y1, A, A', d, e, d', e', h1, h2⟩ := h
  exact ⟨x1, y1, A, A', d, e, d', e', h1.ext x, h2.ext x⟩
attribute [local go_sem] Go.World.cell?_alloc_some Go.RowKit.frozen?_alloc_cells
end Go.Proofs.YtljncdcjkdgkeaaGreatDoor.Lp
