/- Walk: Farkas. Bnd: all numbers of a problem's tableaux are bounded. Walk: Solve. -/
import Derived.Test.YtljncdcjkdgkeaaDoorLSA
import Derived.Test.YtljncdcjkdgkeaaDoorLS9
set_option linter.unusedVariables false
set_option linter.unusedSimpArgs false
namespace Go.Proofs.YtljncdcjkdgkeaaDoor.Lp
open Go.RowKit Go.Proofs.YtljncdcjkdgkeaaDoor.Big Go.Proofs.YtljncdcjkdgkeaaDoor.Rt

structure Bnd (p : Prob) (K : Nat) : Prop where
  le : K ≤ 134217728
  one : 2 ≤ K
  obj : ∀ j, j < p.n → QB K (p.obj j)
  coef : ∀ i, i < p.m → ∀ j, j < p.n → QB K (p.coef i j)
  right : ∀ i, i < p.m → QB K (p.right i)
  way : ∀ s, Way p.m p.W p.art p.T0 p.un p.D1 s → (∀ i, i < p.m → ∀ j, j ≤ p.W → QB K (s.R i j)) ∧ (∀ j, j ≤ p.W → QB K (s.C j)) ∧ ∀ i, i < p.m → s.b i < p.W
  red1 : ∀ i, i ≤ p.m → ∀ j, j ≤ p.W → QB K (red i p.D1 p.T0 p.un j)
  exp : ∀ i, i ≤ p.m → (∀ k, k < p.m → ∀ j, j ≤ p.W → QB K ((exL p p.s1 i).R k j)) ∧ (∀ j, j ≤ p.W → QB K ((exL p p.s1 i).C j))
  red2 : ∀ i, i ≤ p.m → ∀ j, j ≤ p.W → QB K (red i p.D2 p.x1.R p.x1.b j)
  way2 : ∀ s, ExI p p.D2 s p.m → (∀ i, i < p.m → ∀ j, j ≤ p.W → QB K (s.R i j)) ∧ (∀ j, j ≤ p.W → QB K (s.C j)) ∧ ∀ i, i < p.m → s.b i < p.W
theorem Prob.Valid.vrel {p : Prob} (h : p.Valid) : p.Vrel := fun i hi => (h.2.2.2 i hi).2
theorem cnt_le3 (p : Prob) : p.art ≤ p.n + p.m ∧ p.W ≤ p.n + p.m + p.m := by
  unfold Prob.W Prob.art
  have h1 := cnt_le p.m (fun k => decide (p.rel k ≠ 2))
  have h2 := cnt_le p.m (fun k => decide (p.dir k ≠ 1))
  omega
theorem Prob.Valid.w {p : Prob} (h : p.Valid) : p.W < 1099511627776 ∧ p.m ≤ 1099511627776 := by
  have := cnt_le3 p
  have := h.2.1
  have := h.2.2.1
  omega
def FkPost (w : World) (p : Prob) (e : Ending) (w' : World) : Prop :=
  Ext w w' ∧ ((validB p = true ∧ p.s1.C p.W ≠ 0 ∧ ∃ b, e = .returned (.tuple #[.slice (some ⟨b, 0, none⟩) p.m p.m, .bool true]) ∧ RowR w' b p.m (muV p.art p.s1.C p.un p.flip (-1)) ∧ w.heap.size ≤ b) ∨ ((validB p = true → p.s1.C p.W = 0) ∧ e = .returned (.tuple #[.slice none 0 0, .bool false])))
end Go.Proofs.YtljncdcjkdgkeaaDoor.Lp

namespace Go.Proofs.YtljncdcjkdgkeaaDoor.Lp
open Go.RowKit Go.Proofs.YtljncdcjkdgkeaaDoor.Big Go.Proofs.YtljncdcjkdgkeaaDoor.Rt

def zSol : List Value := [.bool false, .slice none 0 0, .bool false, .slice none 0 0, .slice none 0 0, .slice none 0 0]
def noSol (k : Int) : Ending := .returned (.tuple #[.agg #[.bool false, .slice none 0 0, .bool false, .slice none 0 0, .slice none 0 0, .slice none 0 0], .int .i64 k])
def okSol (w w' : World) (p : Prob) (e : Ending) : Prop :=
  ∃ q A n c q' A' n' c' bx by', e = .returned (.tuple #[.agg #[.bool q, .slice A n c, .bool q', .slice A' n' c', .slice (some ⟨bx, 0, none⟩) p.n p.n, .slice (some ⟨by', 0, none⟩) p.m p.m], .int .i64 0]) ∧ RatV w' (.agg #[.bool q, .slice A n c, .bool q', .slice A' n' c']) (p.s2.C p.W) ∧
    RowR w' bx p.n (pt p.m p.W p.s2.R p.s2.b) ∧ RowR w' by' p.m (muV p.art p.s2.C p.un p.flip 0) ∧ w.heap.size ≤ bx ∧ w.heap.size ≤ by' ∧ bx ≠ by'
def SvPost (w : World) (p : Prob) (e : Ending) (w' : World) : Prop :=
  Ext w w' ∧ ((validB p = false ∧ e = noSol 3) ∨ (validB p = true ∧ p.s1.C p.W ≠ 0 ∧ e = noSol 17) ∨ (validB p = true ∧ p.s1.C p.W = 0 ∧ entL p.s2.C p.s2.stalled p.art ≠ none ∧ e = noSol 18) ∨
    (validB p = true ∧ p.s1.C p.W = 0 ∧ entL p.s2.C p.s2.stalled p.art = none ∧ okSol w w' p e))
theorem sm_put {m i : Nat} {R : Nat → Nat → Rat} {b : Nat → Nat} (hU : ∀ k, k < m → ∀ l, l < m → R k (b l) = if k = l then 1 else 0) (hi : i < m) (W j : Nat) : (if j = b i then R i W else sm i (fun k => if b k = j then R k W else 0)) = sm (i + 1) (fun k => if b k = j then R k W else 0) := by
  show _ = sm i (fun k => if b k = j then R k W else 0) + (if b i = j then R i W else 0)
  by_cases h : j = b i
  · rw [if_pos h, if_pos h.symm, sm_zero' (fun k hk => ?_)]
    · grind
    · rw [if_neg]
      intro e
      have h1 := hU k (by omega) i hi
      have h2 := hU k (by omega) k (by omega)
      rw [if_pos rfl, e, h] at h2
      rw [h2, if_neg (by omega)] at h1
      exact absurd h1 (by decide)
  · rw [if_neg h, if_neg (fun e => h e.symm)]
    grind
theorem sol6 {w : World} {b : Nat} {E : TypeId} {x0 x1 x2 x3 x4 x5 : Value} (h : Box w b E #[x0, x1, x2, x3, x4, x5]) : w.cell? ⟨b, 0, none⟩ = some x0 ∧ w.cell? ⟨b, 1, none⟩ = some x1 ∧ w.cell? ⟨b, 2, none⟩ = some x2 ∧ w.cell? ⟨b, 3, none⟩ = some x3 ∧ w.cell? ⟨b, 4, none⟩ = some x4 ∧ w.cell? ⟨b, 5, none⟩ = some x5 ∧
    w.frozen? ⟨b, 0, none⟩ = false ∧ w.frozen? ⟨b, 1, none⟩ = false ∧ w.frozen? ⟨b, 2, none⟩ = false ∧ w.frozen? ⟨b, 3, none⟩ = false ∧ w.frozen? ⟨b, 4, none⟩ = false ∧ w.frozen? ⟨b, 5, none⟩ = false :=
  ⟨h.cell 0, h.cell 1, h.cell 2, h.cell 3, h.cell 4, h.cell 5, h.frozen 0, h.frozen 1, h.frozen 2, h.frozen 3, h.frozen 4, h.frozen 5⟩
theorem sol6set {w : World} {b : Nat} {E : TypeId} {x0 x1 x2 x3 x4 x5 : Value} (h : Box w b E #[x0, x1, x2, x3, x4, x5]) (y0 y1 y2 y3 y4 y5 : Value) : Box ((((((w.setCell ⟨b, 0, none⟩ y0).setCell ⟨b, 1, none⟩ y1).setCell ⟨b, 2, none⟩ y2).setCell ⟨b, 3, none⟩ y3).setCell ⟨b, 4, none⟩ y4).setCell ⟨b, 5, none⟩ y5) b E #[y0, y1, y2, y3, y4, y5] :=
  (((((h.set 0 y0).set 1 y1).set 2 y2).set 3 y3).set 4 y4).set 5 y5
theorem sol6fr {w : World} {b : Nat} {E : TypeId} {x0 x1 x2 x3 x4 x5 : Value} (h : Box w b E #[x0, x1, x2, x3, x4, x5]) (hx : ∀ z, some x0 ≠ some (.int .u32 z) ∧ some x1 ≠ some (.int .u32 z) ∧ some x2 ≠ some (.int .u32 z) ∧ some x3 ≠ some (.int .u32 z) ∧ some x4 ≠ some (.int .u32 z) ∧ some x5 ≠ some (.int .u32 z)) (y0 y1 y2 y3 y4 y5 : Value) :
    Fr (fun k => k = b) w ((((((w.setCell ⟨b, 0, none⟩ y0).setCell ⟨b, 1, none⟩ y1).setCell ⟨b, 2, none⟩ y2).setCell ⟨b, 3, none⟩ y3).setCell ⟨b, 4, none⟩ y4).setCell ⟨b, 5, none⟩ y5) := by
  have h0 := h.set 0 y0
  have h1 := h0.set 1 y1
  have h2 := h1.set 2 y2
  have h3 := h2.set 3 y3
  have h4 := h3.set 4 y4
  refine ((((((Fr.refl (fun k => k = b) w).set (p := ⟨b, 0, none⟩) rfl (fun z => ?_) y0).set (p := ⟨b, 1, none⟩) rfl (fun z => ?_) y1).set (p := ⟨b, 2, none⟩) rfl (fun z => ?_) y2).set (p := ⟨b, 3, none⟩) rfl (fun z => ?_) y3).set (p := ⟨b, 4, none⟩) rfl (fun z => ?_) y4).set (p := ⟨b, 5, none⟩) rfl (fun z => ?_) y5
  · rw [h.cell 0]; exact (hx z).1
  · rw [h0.cell 1]; exact (hx z).2.1
  · rw [h1.cell 2]; exact (hx z).2.2.1
  · rw [h2.cell 3]; exact (hx z).2.2.2.1
  · rw [h3.cell 4]; exact (hx z).2.2.2.2.1
  · rw [h4.cell 5]; exact (hx z).2.2.2.2.2
theorem sol6ext {w0 w : World} {b : Nat} (hb : w0.heap.size ≤ b) (h : Ext w0 w) (y0 y1 y2 y3 y4 y5 : Value) : Ext w0 ((((((w.setCell ⟨b, 0, none⟩ y0).setCell ⟨b, 1, none⟩ y1).setCell ⟨b, 2, none⟩ y2).setCell ⟨b, 3, none⟩ y3).setCell ⟨b, 4, none⟩ y4).setCell ⟨b, 5, none⟩ y5) :=
  (((((h.set (p := ⟨b, 0, none⟩) hb y0).set (p := ⟨b, 1, none⟩) hb y1).set (p := ⟨b, 2, none⟩) hb y2).set (p := ⟨b, 3, none⟩) hb y3).set (p := ⟨b, 4, none⟩) hb y4).set (p := ⟨b, 5, none⟩) hb y5
end Go.Proofs.YtljncdcjkdgkeaaDoor.Lp
