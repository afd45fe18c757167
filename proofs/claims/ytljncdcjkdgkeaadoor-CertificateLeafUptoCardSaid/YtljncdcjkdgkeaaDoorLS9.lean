/- Walk: feasible. Walk: expel. Walk: aim. Walk: multipliers. -/
import Derived.Test.YtljncdcjkdgkeaaDoorLN2
set_option linter.unusedVariables false
set_option linter.unusedSimpArgs false
namespace Go.Proofs.YtljncdcjkdgkeaaDoor.Lp
open Go.RowKit Go.Proofs.YtljncdcjkdgkeaaDoor.Big Go.Proofs.YtljncdcjkdgkeaaDoor.Rt

/-- the blocks that the phases write -/
def tQ (a : TA) (m : Nat) (k : Nat) : Prop := (∃ i, i < m ∧ k = a.rw i) ∨ k = a.t ∨ (0 < m ∧ k = a.bb)
theorem World.lt_of_cell {w : World} {b i : Nat} {v : Value} (h : w.cell? ⟨b, i, none⟩ = some v) : b < w.heap.size := World.block_lt_of_cell? w _ h
def ar1 (art W : Nat) (j : Nat) : Rat := if art ≤ j ∧ j < W then 1 else 0
theorem red_next (m : Nat) (D : Nat → Rat) (R : Nat → Nat → Rat) (b : Nat → Nat) (j : Nat) : red (m + 1) D R b j = red m D R b j - D (b m) * R m j := by
  show D j - (sm m (fun k => D (b k) * R k j) + D (b m) * R m j) = D j - sm m (fun k => D (b k) * R k j) - D (b m) * R m j
  grind
theorem RatB.up {w : World} {v : Value} {q : Rat} {j k : Nat} (h : RatB w v q j) (e : j ≤ k) : RatB w v q k := ⟨h.1, QB_mono e h.2⟩
end Go.Proofs.YtljncdcjkdgkeaaDoor.Lp

namespace Go.Proofs.YtljncdcjkdgkeaaDoor.Lp
open Go.RowKit Go.Proofs.YtljncdcjkdgkeaaDoor.Big Go.Proofs.YtljncdcjkdgkeaaDoor.Rt

theorem fnz_step {f : Nat → Rat} {n j : Nat} (h : fnz f j = none) (h0 : f j ≠ 0) (hj : j < n) : fnz f n = some j := by
  obtain ⟨d, rfl⟩ : ∃ d, n = j + 1 + d := ⟨n - (j + 1), by omega⟩
  clear hj
  induction d with
  | zero =>
    show (match fnz f j with | some j => some j | none => if f j ≠ 0 then some j else none) = _
    rw [h]; exact if_pos h0
  | succ d ih =>
    show (match fnz f (j + 1 + d) with | some j => some j | none => if f (j + 1 + d) ≠ 0 then some (j + 1 + d) else none) = _
    rw [ih]
theorem fnz_skip {f : Nat → Rat} {j : Nat} (h : fnz f j = none) (h0 : f j = 0) : fnz f (j + 1) = none := by
  show (match fnz f j with | some j => some j | none => if f j ≠ 0 then some j else none) = _
  rw [h]; exact if_neg (fun h => h h0)
end Go.Proofs.YtljncdcjkdgkeaaDoor.Lp

namespace Go.Proofs.YtljncdcjkdgkeaaDoor.Lp
open Go.RowKit Go.Proofs.YtljncdcjkdgkeaaDoor.Big Go.Proofs.YtljncdcjkdgkeaaDoor.Rt

/-- the costs of an objective of n columns -/
def ob2 (n : Nat) (o : Nat → Rat) (j : Nat) : Rat := if j < n then -o j else 0
end Go.Proofs.YtljncdcjkdgkeaaDoor.Lp

namespace Go.Proofs.YtljncdcjkdgkeaaDoor.Lp
open Go.RowKit Go.Proofs.YtljncdcjkdgkeaaDoor.Big Go.Proofs.YtljncdcjkdgkeaaDoor.Rt

def muV (art : Nat) (C : Nat → Rat) (u : Nat → Nat) (fl : Nat → Bool) (q : Rat) (i : Nat) : Rat := if fl i = true then -(C (u i) + if art ≤ u i then q else 0) else C (u i) + if art ≤ u i then q else 0
def RowPost (w : World) (n : Nat) (f : Nat → Rat) (e : Ending) (w' : World) : Prop := ∃ b : Nat, e = .returned (.slice (some ⟨b, 0, none⟩) n n) ∧ RowR w' b n f ∧ Ext w w' ∧ w.heap.size ≤ b
end Go.Proofs.YtljncdcjkdgkeaaDoor.Lp
