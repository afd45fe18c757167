/- Walk: the leaving row. -/
import Derived.Test.YtljncdcjkdgkeaaDoorLS3
set_option linter.unusedVariables false
set_option linter.unusedSimpArgs false
namespace Go.Proofs.YtljncdcjkdgkeaaDoor.Lp
open Go.RowKit Go.Proofs.YtljncdcjkdgkeaaDoor.Big Go.Proofs.YtljncdcjkdgkeaaDoor.Rt

theorem leavL_no {R : Nat → Nat → Rat} {W : Nat} {b : Nat → Nat} {c i : Nat} (h : ¬ 0 < R i c) : leavL R W b c (i + 1) = leavL R W b c i := by
  show (match leavL R W b c i with | none => if 0 < R i c then some i else none | some k => if 0 < R i c ∧ (R i W / R i c < R k W / R k c ∨ (R i W / R i c = R k W / R k c ∧ b i < b k)) then some i else some k) = _
  split
  · next e => rw [if_neg h, e]
  · next k e => rw [e, if_neg (fun h' => h h'.1)]
theorem leavL_new {R : Nat → Nat → Rat} {W : Nat} {b : Nat → Nat} {c i : Nat} (h : leavL R W b c i = none) (h0 : 0 < R i c) : leavL R W b c (i + 1) = some i := by
  show (match leavL R W b c i with | none => if 0 < R i c then some i else none | some k => if 0 < R i c ∧ (R i W / R i c < R k W / R k c ∨ (R i W / R i c = R k W / R k c ∧ b i < b k)) then some i else some k) = _
  rw [h]; exact if_pos h0
theorem leavL_old {R : Nat → Nat → Rat} {W : Nat} {b : Nat → Nat} {c i k : Nat} (h : leavL R W b c i = some k) (h0 : 0 < R i c) : leavL R W b c (i + 1) = if R i W / R i c < R k W / R k c ∨ (R i W / R i c = R k W / R k c ∧ b i < b k) then some i else some k := by
  show (match leavL R W b c i with | none => if 0 < R i c then some i else none | some k => if 0 < R i c ∧ (R i W / R i c < R k W / R k c ∨ (R i W / R i c = R k W / R k c ∧ b i < b k)) then some i else some k) = _
  rw [h]
  show (if 0 < R i c ∧ (R i W / R i c < R k W / R k c ∨ (R i W / R i c = R k W / R k c ∧ b i < b k)) then some i else some k) = _
  by_cases h1 : R i W / R i c < R k W / R k c ∨ (R i W / R i c = R k W / R k c ∧ b i < b k)
  · rw [if_pos ⟨h0, h1⟩, if_pos h1]
  · rw [if_neg (fun e => h1 e.2), if_neg h1]
theorem num_pos {q : Rat} : 0 < q ↔ 0 < q.num := by
  rw [← Rat.not_le, ← Int.not_le]
  have : q ≤ 0 ↔ q.num ≤ 0 := by
    have h := num_neg (q := q)
    constructor
    · intro hq
      by_cases h0 : q = 0
      · rw [h0]; decide
      · exact Int.le_of_lt (h.1 (by grind))
    · intro hq
      rcases Int.lt_or_eq_of_le hq with h1 | h1
      · exact Rat.le_of_lt (h.2 h1)
      · rw [Rat.num_eq_zero.1 h1]; exact Rat.le_refl
  rw [this]
theorem boxA' {w w' : World} {E : TypeId} {cs : Array Value} (h : Ext (w.alloc (.cells cs E)) w') : Box w' w.heap.size E cs := (Box.new w E cs).ext h
theorem boxAd' {w w' : World} {E : TypeId} {cs : Array Value} (h : Ext (w.alloc (.cells cs E)).drew w') : Box w' w.heap.size E cs := (Box.new w E cs).drew.ext h
/-- a rational number in a box of four cells -/
def RBox (w : World) (b : Nat) (q : Rat) (k : Nat) : Prop :=
  ∃ (x y : Bool) (A A' : Option Addr) (d e d' e' : Nat), Box w b 46 #[.bool x, .slice A d e, .bool y, .slice A' d' e'] ∧ RatB w (.agg #[.bool x, .slice A d e, .bool y, .slice A' d' e']) q k
theorem RBox.ext {w w' : World} {b : Nat} {q : Rat} {k : Nat} (h : RBox w b q k) (x : Ext w w') : RBox w' b q k := by
  obtain ⟨x1, y1, A, A', d, e, d', e', h1, h2⟩ := h
  exact ⟨x1, y1, A, A', d, e, d', e', h1.ext x, h2.ext x⟩
attribute [local go_sem] Go.World.cell?_alloc_some Go.RowKit.frozen?_alloc_cells
end Go.Proofs.YtljncdcjkdgkeaaDoor.Lp
