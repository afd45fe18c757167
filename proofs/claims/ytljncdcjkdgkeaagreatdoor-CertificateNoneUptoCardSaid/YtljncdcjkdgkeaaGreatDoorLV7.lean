/- Walk: combine. -/
import Derived.Test.YtljncdcjkdgkeaaGreatDoorLV3
import Derived.Test.YtljncdcjkdgkeaaGreatDoorLN2
set_option linter.unusedVariables false
set_option linter.unusedSimpArgs false
namespace Go.Proofs.YtljncdcjkdgkeaaGreatDoor.Lp
open Go.RowKit Go.Proofs.YtljncdcjkdgkeaaGreatDoor.Big Go.Proofs.YtljncdcjkdgkeaaGreatDoor.Rt

def sg1 (p : Prob) (y : Nat → Rat) (i : Nat) : Bool := decide ((p.rel i = 1 → 0 ≤ y i) ∧ (p.rel i = 3 → y i ≤ 0))
def sgB (p : Prob) (y : Nat → Rat) : Nat → Bool
  | 0 => true
  | i + 1 => sgB p y i && sg1 p y i
theorem sgB_iff {p : Prob} {y : Nat → Rat} {m : Nat} : sgB p y m = true ↔ ∀ i, i < m → (p.rel i = 1 → 0 ≤ y i) ∧ (p.rel i = 3 → y i ≤ 0) := by
  induction m with
  | zero => exact ⟨fun _ i hi => absurd hi (by omega), fun _ => rfl⟩
  | succ m ih =>
    show (sgB p y m && sg1 p y m) = true ↔ _
    rw [Bool.and_eq_true, ih]
    unfold sg1
    rw [decide_eq_true_eq]
    constructor
    · rintro ⟨a, b⟩ i hi
      by_cases e : i = m
      · subst e; exact b
      · exact a i (by omega)
    · intro h; exact ⟨fun i hi => h i (by omega), h m (by omega)⟩
theorem sgB_no {p : Prob} {y : Nat → Rat} {i m : Nat} (h : sg1 p y i = false) (hi : i < m) : sgB p y m = false := by
  cases e : sgB p y m with
  | false => rfl
  | true =>
    have := sgB_iff.1 e i hi
    unfold sg1 at h
    exact absurd this (of_decide_eq_false h)
/-- the right number of multipliers, of the right signs -/
def combB (p : Prob) (ny : Nat) (y : Nat → Rat) : Bool := (ny == p.m) && sgB p y p.m
theorem combB_iff {p : Prob} {ny : Nat} {y : Nat → Rat} : combB p ny y = true ↔ ny = p.m ∧ p.Sgn y := by
  unfold combB Prob.Sgn
  rw [Bool.and_eq_true, sgB_iff, beq_iff_eq]
def CombPost (w : World) (p : Prob) (ny : Nat) (y : Nat → Rat) (T : Nat) (e : Ending) (w' : World) : Prop :=
  ∃ bl q A n c q' A' n' c' f z, e = .returned (.tuple #[.slice (some ⟨bl, 0, none⟩) p.n p.n, .agg #[.bool q, .slice A n c, .bool q', .slice A' n' c'], .bool (combB p ny y)]) ∧ RowR w' bl p.n f ∧ RatB w' (.agg #[.bool q, .slice A n c, .bool q', .slice A' n' c']) z T ∧
    (∀ j, j < p.n → QB T (f j)) ∧ (combB p ny y = true → (∀ j, j < p.n → f j = p.left y j) ∧ z = p.rhs y) ∧ Ext w w'
theorem ext4 {w0 w : World} {b : Nat} (hb : w0.heap.size ≤ b) (h : Ext w0 w) (u0 u1 u2 u3 : Value) : Ext w0 ((((w.setCell ⟨b, 0, none⟩ u0).setCell ⟨b, 1, none⟩ u1).setCell ⟨b, 2, none⟩ u2).setCell ⟨b, 3, none⟩ u3) :=
  (((h.set (p := ⟨b, 0, none⟩) hb u0).set (p := ⟨b, 1, none⟩) hb u1).set (p := ⟨b, 2, none⟩) hb u2).set (p := ⟨b, 3, none⟩) hb u3
theorem RBox.fr {P : Nat → Prop} {w w' : World} {b : Nat} {q : Rat} {k : Nat} (h : RBox w b q k) (f : Fr P w w') (hb : ¬ P b) : RBox w' b q k := by
  obtain ⟨x1, y1, A, A', d, e, d', e', h1, h2⟩ := h
  exact ⟨x1, y1, A, A', d, e, d', e', f.box h1 hb, f.ratB h2⟩
theorem fr4 {w : World} {b : Nat} {E : TypeId} {x y : Bool} {A A' : Option Addr} {d e d' e' : Nat} (B : Box w b E #[.bool x, .slice A d e, .bool y, .slice A' d' e']) (u0 u1 u2 u3 : Value) :
    Fr (fun k => k = b) w ((((w.setCell ⟨b, 0, none⟩ u0).setCell ⟨b, 1, none⟩ u1).setCell ⟨b, 2, none⟩ u2).setCell ⟨b, 3, none⟩ u3) := by
  have h0 := B.set 0 u0
  have h1 := h0.set 1 u1
  have h2 := h1.set 2 u2
  refine ((((Fr.refl (fun k => k = b) w).set (p := ⟨b, 0, none⟩) rfl (fun z => ?_) u0).set (p := ⟨b, 1, none⟩) rfl (fun z => ?_) u1).set (p := ⟨b, 2, none⟩) rfl (fun z => ?_) u2).set (p := ⟨b, 3, none⟩) rfl (fun z => ?_) u3
  · rw [B.cell 0]; intro e; cases e
  · rw [h0.cell 1]; intro e; cases e
  · rw [h1.cell 2]; intro e; cases e
  · rw [h2.cell 3]; intro e; cases e
end Go.Proofs.YtljncdcjkdgkeaaGreatDoor.Lp
