/- What stays when a node's cell is written. -/
import Derived.Test.YthafabkjidifeaaIN0
set_option linter.unusedVariables false
set_option linter.unusedSimpArgs false
namespace Go.Proofs.Ythafabkjidifeaa.Lp
open Go.RowKit Go.Proofs.Ythafabkjidifeaa.Big Go.Proofs.Ythafabkjidifeaa.Rt

theorem TreeV.frR {P : Nat → Prop} {K : Nat} {w w' : World} {t : BT} {b h : Nat} (k : TreeV K w t b h) (r : Fr P w w') (hn : ∀ i, b ≤ i → i < h → ¬ P i) (hr : ∀ b n f, RowR w b n f → ¬ P b) : TreeV K w' t b h := by
  induction t generalizing b h with
  | leaf _ m y =>
    obtain ⟨h1, A, c, h2, h3, h4⟩ := k
    exact ⟨h1, A, c, r.box h2 (hn b (Nat.le_refl _) h1), h3.fr r hr, h4⟩
  | node v f x z ihx ihz =>
    obtain ⟨bx, hx, bz, h1, h2, h3, h4, h5⟩ := k
    have l1 := h2.lt
    have l2 := h4.lt
    exact ⟨bx, hx, bz, h1, ihx h2 (fun i a b => hn i (by omega) (by omega)), h3, ihz h4 (fun i a b => hn i (by omega) b), r.box h5 (hn b (Nat.le_refl _) (by omega))⟩
theorem box_row {w : World} {sb : Nat} {E : TypeId} {cs : Array Value} (h : Box w sb E cs) (hE : E ≠ 59) : ∀ b n f, RowR w b n f → ¬ (b = sb) := by
  rintro b n f ⟨ds, h1, -⟩ rfl
  exact row_ne h h1 hE rfl
theorem ProbV.frB {w w' : World} {nb : Nat} {E : TypeId} {x1 : Int} {cs : List Value} {v : Value} {p : Prob} (h : ProbV w v p) (r : Fr (fun k => k = nb) w w') (hE : E ≠ 59) (hs : Box w nb E (.int .i64 x1 :: cs).toArray) : ProbV w' v p := by
  obtain ⟨Ao, co, Ar, cr, rfl, h1, h2, h3, h4⟩ := h
  refine ⟨Ao, co, Ar, cr, rfl, h1.fr r (box_row hs hE), h2, h3, fun hm => ?_⟩
  obtain ⟨br, e, hr⟩ := h4 hm
  have hne : ¬ (br = nb) := by
    rintro rfl
    obtain ⟨Ac, cc, x, A, d, e', y, A', d', e'', g0, -⟩ := hr 0 hm
    have c0 := hs.c0
    rw [Nat.zero_mul] at g0
    rw [g0] at c0
    cases c0
  refine ⟨br, e, fun i hi => ?_⟩
  obtain ⟨Ac, cc, x, A, d, e', y, A', d', e'', g0, g1, g2, g3, g4, g5, k1, k2, k3⟩ := hr i hi
  exact ⟨Ac, cc, x, A, d, e', y, A', d', e'', r.cell hne g0, r.cell hne g1, r.cell hne g2, r.cell hne g3, r.cell hne g4, r.cell hne g5, k1.fr r (box_row hs hE), k2, r.rat k3⟩
theorem SearchV.frN {w w' : World} {sb nb L n : Nat} {s : BS} {cs : Array Value} (h : SearchV w sb L n s) (r : Fr (fun k => k = nb) w w') (hs : Box w nb 95 cs) : SearchV w' sb L n s := by
  obtain ⟨fo, va, A, m, c, h1, h2, h3⟩ := h
  refine ⟨fo, va, A, m, c, r.box h1 (row_ne h1 hs (by decide)), h2, fun v x e => ?_⟩
  obtain ⟨a1, a2, a0, a3, a4, g, a5, a6⟩ := h3 v x e
  refine ⟨a1, a2, a0, a3, a4, g, a5, a6.fr r ?_⟩
  obtain ⟨ds, k1, -⟩ := a6
  exact row_ne k1 hs (by decide)
/-- a child is written into a node -/
theorem node_set {w : World} {sb nb L n i : Nat} {s : BS} {vr fl : Int} {lo hi : Option Addr} {em : Bool} {A : Option Addr} {l c : Nat} (hN : Box w nb 95 (NodeC vr fl lo hi em A l c)) (hS : SearchV w sb L n s) (hi : i = 2 ∨ i = 3) (u : Value) :
    SearchV (w.setCell ⟨nb, i, none⟩ u) sb L n s ∧ Fr (fun k => k = nb) w (w.setCell ⟨nb, i, none⟩ u) := by
  have hF : Fr (fun k => k = nb) w (w.setCell ⟨nb, i, none⟩ u) := (Fr.refl (fun k => k = nb) w).set (p := ⟨nb, i, none⟩) rfl (fun z => by
    rw [hN.cell i]; rcases hi with rfl | rfl <;> (intro e; cases e)) _
  exact ⟨hS.frN hF hN, hF⟩
end Go.Proofs.Ythafabkjidifeaa.Lp
