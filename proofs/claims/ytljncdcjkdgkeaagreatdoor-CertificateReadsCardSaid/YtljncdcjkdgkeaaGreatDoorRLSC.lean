/- Walk: Farkas. Bnd: all numbers of a problem's tableaux are bounded. Walk: Solve. -/
import Derived.Deep.CutBlock
import Derived.Deep.RegionLaw
import Derived.Test.YtljncdcjkdgkeaaGreatDoorRLN2
import Derived.Test.YtljncdcjkdgkeaaGreatDoorRLS9
set_option linter.unusedVariables false
set_option linter.unusedSimpArgs false
namespace Go.Proofs.YtljncdcjkdgkeaaGreatDoor.Lp
open Go.RowKit Go.Proofs.YtljncdcjkdgkeaaGreatDoor.Big Go.Proofs.YtljncdcjkdgkeaaGreatDoor.Rt

structure Bnd (p : Prob) (K : Nat) : Prop where
  le : K ≤ 134217728
  one : 2 ≤ K
  obj : ∀ j, j < p.n → QB K (p.obj j)
  coef : ∀ i, i < p.m → ∀ j, j < p.n → QB K (p.coef i j)
  right : ∀ i, i < p.m → QB K (p.right i)
  way : ∀ s, Way p.m p.W p.art p.T0 p.un p.D1 s → (∀ i, i < p.m → ∀ j, j ≤ p.W → QB K (s.R i j)) ∧ (∀ j, j ≤ p.W → QB K (s.C j)) ∧ ∀ i, i < p.m → s.b i < p.W
  red1 : ∀ i, i ≤ p.m → ∀ j, j ≤ p.W → QB K (red i p.D1 p.T0 p.un j)
  exp : ∀ i, i ≤ p.m → (∀ k, k < p.m → ∀ j, j ≤ p.W → QB K ((exL p p.s1 i).R k j)) ∧ (∀ j, j ≤ p.W → QB K ((exL p p.s1 i).C j))
  red2 : ∀ i, i ≤ p.m → ∀ j, j ≤ p.W → QB K (red i p.D2 p.x1.R p.x1.b j)
  way2 : ∀ s, ExI p p.D2 s p.m → (∀ i, i < p.m → ∀ j, j ≤ p.W → QB K (s.R i j)) ∧ (∀ j, j ≤ p.W → QB K (s.C j)) ∧ ∀ i, i < p.m → s.b i < p.W
theorem Prob.Valid.vrel {p : Prob} (h : p.Valid) : p.Vrel := fun i hi => (h.2.2.2 i hi).2
end Go.Proofs.YtljncdcjkdgkeaaGreatDoor.Lp

namespace Go.Proofs.YtljncdcjkdgkeaaGreatDoor.Lp
open Go.RowKit Go.Proofs.YtljncdcjkdgkeaaGreatDoor.Big Go.Proofs.YtljncdcjkdgkeaaGreatDoor.Rt

end Go.Proofs.YtljncdcjkdgkeaaGreatDoor.Lp
