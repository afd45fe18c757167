/- Problems of a search: numbers of few digits, not more than M rows. -/
import Derived.Test.YthafabkjidifeaaIB
import Derived.Test.YthafabkjidifeaaLV5
set_option linter.unusedVariables false
set_option linter.unusedSimpArgs false
namespace Go.Proofs.Ythafabkjidifeaa.Lp
open Go.RowKit Go.Proofs.Ythafabkjidifeaa.Big Go.Proofs.Ythafabkjidifeaa.Rt

/-- problems of a search: numbers of few digits, not more than M rows -/
structure CanI (p : Prob) (k M K : Nat) : Prop where
  val : validB p = true
  n : p.n ≤ k
  m : p.m ≤ M
  lim : M ≤ 1000
  obj : ∀ j, j < p.n → QB 2 (p.obj j)
  coef : ∀ i, i < p.m → ∀ j, j < p.n → QB 2 (p.coef i j)
  right : ∀ i, i < p.m → QB 3 (p.right i)
  big : bK3 M k 2 3 2 ≤ K
  top : K ≤ 134217728
theorem CanI.bnd {p : Prob} {k M K : Nat} (h : CanI p k M K) : Bnd p K := by
  have hr := (validB_iff.1 h.val).vrel
  have h1 : bK3 p.m k 2 3 2 ≤ bK3 M k 2 3 2 := bK3_mono h.m (Nat.le_refl _) (Nat.le_refl _)
  have := h.big
  have := h.top
  exact (Bnd.of hr k 2 3 2 (.inl h.n) (by omega) (by omega) (by omega) (by omega) h.obj h.coef h.right).up (by omega) (by omega)
theorem CanI.vrel {p : Prob} {k M K : Nat} (h : CanI p k M K) : p.Vrel := (validB_iff.1 h.val).vrel
theorem fit_QB {f : Int} (h : fit f = true) (b : Bool) : QB 3 (((f + (if b = true then 1 else 0) : Int)) : Rat) := by
  obtain ⟨h1, h2⟩ := fit_iff.1 h
  refine ⟨?_, B_one (by omega)⟩
  show B 3 (f + (if b = true then 1 else 0))
  unfold B
  have : pw 3 = 79228162514264337593543950336 := by decide
  rw [this]
  split <;> omega
theorem CanI.side {p : Prob} {k M K : Nat} (h : CanI p k M K) (hm : p.m + 1 ≤ M) {v : Nat} {f : Int} (hf : fit f = true) (b : Bool) : CanI (p.side v f b) k M K := by
  obtain ⟨a1, a2, a3, a4⟩ := validB_iff.1 h.val
  have hM := h.lim
  refine ⟨validB_iff.2 ⟨a1, a2, ?_, fun i hi => ?_⟩, h.n, hm, h.lim, h.obj, fun i hi j hj => ?_, fun i hi => ?_, h.big, h.top⟩
  · show p.m + 1 ≤ 1000; omega
  · have hi : i < p.m + 1 := hi
    show (if i = p.m then p.n else p.len i) = p.n ∧ 1 ≤ (if i = p.m then (if b = true then 3 else 1) else p.rel i) ∧ (if i = p.m then (if b = true then 3 else 1) else p.rel i) ≤ 3
    by_cases e : i = p.m
    · rw [if_pos e, if_pos e]; refine ⟨rfl, ?_⟩; split <;> exact ⟨by omega, by omega⟩
    · rw [if_neg e, if_neg e]; exact a4 i (by omega)
  · have hi : i < p.m + 1 := hi
    show QB 2 ((if i = p.m then (fun j => if j = v then 1 else 0) else p.coef i) j)
    by_cases e : i = p.m
    · rw [if_pos e]
      show QB 2 (if j = v then 1 else 0)
      split
      · exact QB_one (by omega)
      · exact QB_zero (by omega)
    · rw [if_neg e]; exact h.coef i (by omega) j hj
  · have hi : i < p.m + 1 := hi
    show QB 3 (if i = p.m then ((f + (if b = true then 1 else 0) : Int) : Rat) else p.right i)
    by_cases e : i = p.m
    · rw [if_pos e]; exact fit_QB hf b
    · rw [if_neg e]; exact h.right i (by omega)
end Go.Proofs.Ythafabkjidifeaa.Lp
