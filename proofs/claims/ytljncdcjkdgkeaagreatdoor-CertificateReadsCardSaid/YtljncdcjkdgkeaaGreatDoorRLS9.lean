/- Walk: feasible. Walk: expel. Walk: aim. Walk: multipliers. -/
import Derived.Test.YtljncdcjkdgkeaaGreatDoorRLN2
set_option linter.unusedVariables false
set_option linter.unusedSimpArgs false
namespace Go.Proofs.YtljncdcjkdgkeaaGreatDoor.Lp
open Go.RowKit Go.Proofs.YtljncdcjkdgkeaaGreatDoor.Big Go.Proofs.YtljncdcjkdgkeaaGreatDoor.Rt

theorem RatB.up {w : World} {v : Value} {q : Rat} {j k : Nat} (h : RatB w v q j) (e : j ≤ k) : RatB w v q k := ⟨h.1, QB_mono e h.2⟩
end Go.Proofs.YtljncdcjkdgkeaaGreatDoor.Lp

namespace Go.Proofs.YtljncdcjkdgkeaaGreatDoor.Lp
open Go.RowKit Go.Proofs.YtljncdcjkdgkeaaGreatDoor.Big Go.Proofs.YtljncdcjkdgkeaaGreatDoor.Rt

end Go.Proofs.YtljncdcjkdgkeaaGreatDoor.Lp

namespace Go.Proofs.YtljncdcjkdgkeaaGreatDoor.Lp
open Go.RowKit Go.Proofs.YtljncdcjkdgkeaaGreatDoor.Big Go.Proofs.YtljncdcjkdgkeaaGreatDoor.Rt

end Go.Proofs.YtljncdcjkdgkeaaGreatDoor.Lp

namespace Go.Proofs.YtljncdcjkdgkeaaGreatDoor.Lp
open Go.RowKit Go.Proofs.YtljncdcjkdgkeaaGreatDoor.Big Go.Proofs.YtljncdcjkdgkeaaGreatDoor.Rt

def RowPost (w : World) (n : Nat) (f : Nat → Rat) (e : Ending) (w' : World) : Prop := ∃ b : Nat, e = .returned (.slice (some ⟨b, 0, none⟩) n n) ∧ RowR w' b n f ∧ Ext w w' ∧ w.heap.size ≤ b
end Go.Proofs.YtljncdcjkdgkeaaGreatDoor.Lp
