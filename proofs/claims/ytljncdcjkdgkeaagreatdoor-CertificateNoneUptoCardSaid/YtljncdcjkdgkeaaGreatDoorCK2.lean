/- bounded in one form. -/
import Derived.Test.YtljncdcjkdgkeaaGreatDoorCVA
set_option linter.unusedVariables false
set_option linter.unusedSimpArgs false
namespace Go.Proofs.YtljncdcjkdgkeaaGreatDoor.Lp
open Go.RowKit Go.Proofs.YtljncdcjkdgkeaaGreatDoor.Big Go.Proofs.YtljncdcjkdgkeaaGreatDoor.Rt

theorem bounded_u (v : Value) (p : Prob) (Ay : Option Addr) (ny cy : Nat) (y : Nat → Rat) (Kc Kr Ko Ky T : Nat) (w : World) (hv : ProbV w v p) (hval : validB p = true) (hy : RatsV w Ay ny cy y)
    (hc : ∀ i, i < p.m → ∀ j, j < p.n → QB Kc (p.coef i j)) (hr : ∀ i, i < p.m → QB Kr (p.right i)) (ho : ∀ j, j < p.n → QB Ko (p.obj j)) (hq : ∀ j, j < ny → QB Ky (y j)) (hT : 1 + p.m * (Kc + Kr + Ky + 1) ≤ T) (hT2 : T ≤ 137438953472) (hT3 : Kc + Kr + Ky ≤ 137438953472) (hT4 : Ko ≤ 137438953472) :
    Calls Tryz.prog 51 #[v, .slice Ay ny cy] w (fun e w' => ∃ q A n c q' A' n' c', e = .returned (.tuple #[.agg #[.bool q, .slice A n c, .bool q', .slice A' n' c'], .bool (bndB p ny y)]) ∧ (bndB p ny y = true → RatB w' (.agg #[.bool q, .slice A n c, .bool q', .slice A' n' c']) (p.rhs y) T) ∧ Ext w w') := by
  refine (bounded_b v p Ay ny cy y Kc Kr Ko Ky T w hv hval hy hc hr ho hq hT hT2 hT3 hT4).mono ?_
  rintro e w' ⟨⟨hb, rfl⟩ | ⟨hb, q, A, n, c, q', A', n', c', rfl, h⟩, hx⟩
  · refine ⟨false, none, 0, 0, false, none, 0, 0, by rw [hb], ?_, hx⟩
    intro h
    rw [hb] at h
    cases h
  · exact ⟨q, A, n, c, q', A', n', c', by rw [hb], fun _ => h, hx⟩
end Go.Proofs.YtljncdcjkdgkeaaGreatDoor.Lp
