/- Walk: awake (the examples of the chapter). Walks: fits; what all laws begin with. -/
import Derived.Test.YthafabkjidifeaaLV5
import Derived.Test.YthafabkjidifeaaLN3
set_option linter.unusedVariables false
set_option linter.unusedSimpArgs false
namespace Go.Proofs.Ythafabkjidifeaa.Lp
open Go.RowKit Go.Proofs.Ythafabkjidifeaa.Big Go.Proofs.Ythafabkjidifeaa.Rt

theorem iRow2 {w : World} {b : Nat} {E : TypeId} {x y : Int} (B : Box w b E #[.int .i32 x, .int .i32 y]) : Row w (.slice (some ⟨b, 0, none⟩) 2 2) (wV [x, y]) := by
  refine ⟨_, 2, rfl, by simp [wV], by omega, fun _ => ⟨b, 0, rfl, fun j u hj => ?_⟩⟩
  rw [Nat.zero_add, B.cell j, ← hj]
  exact List.getElem?_toArray
theorem mem1 (w : World) : IPV ((((w.alloc (.cells #[.int .i32 3, .int .i32 2] 21)).alloc (.cells #[.int .i32 1, .int .i32 1] 21)).alloc (.cells #[.int .i32 1, .int .i32 3] 21)).alloc
      (.cells #[.slice (some ⟨w.heap.size + 1, 0, none⟩) 2 2, .int .u8 1, .int .i32 4, .slice (some ⟨w.heap.size + 1 + 1, 0, none⟩) 2 2, .int .u8 1, .int .i32 6] 52))
    (.agg #[.slice (some ⟨w.heap.size, 0, none⟩) 2 2, .slice (some ⟨w.heap.size + 1 + 1 + 1, 0, none⟩) 2 2, .int .u8 0]) ip1 ∧
    Ext w ((((w.alloc (.cells #[.int .i32 3, .int .i32 2] 21)).alloc (.cells #[.int .i32 1, .int .i32 1] 21)).alloc (.cells #[.int .i32 1, .int .i32 3] 21)).alloc
      (.cells #[.slice (some ⟨w.heap.size + 1, 0, none⟩) 2 2, .int .u8 1, .int .i32 4, .slice (some ⟨w.heap.size + 1 + 1, 0, none⟩) 2 2, .int .u8 1, .int .i32 6] 52)) := by
  obtain ⟨w1, h1⟩ : ∃ x, x = w.alloc (.cells #[.int .i32 3, .int .i32 2] 21) := ⟨_, rfl⟩
  have B1 := Box.new w 21 #[.int .i32 3, .int .i32 2]
  have e1 : Ext w w1 := by rw [h1]; exact (Ext.refl w).alloc _
  have s1 : w1.heap.size = w.heap.size + 1 := by rw [h1]; simp
  rw [← h1] at B1 ⊢
  obtain ⟨w2, h2⟩ : ∃ x, x = w1.alloc (.cells #[.int .i32 1, .int .i32 1] 21) := ⟨_, rfl⟩
  have B2 := Box.new w1 21 #[.int .i32 1, .int .i32 1]
  have e2 : Ext w1 w2 := by rw [h2]; exact (Ext.refl w1).alloc _
  have s2 : w2.heap.size = w.heap.size + 1 + 1 := by rw [h2]; simp [s1]
  rw [s1, ← h2] at B2
  rw [← h2]
  obtain ⟨w3, h3⟩ : ∃ x, x = w2.alloc (.cells #[.int .i32 1, .int .i32 3] 21) := ⟨_, rfl⟩
  have B3 := Box.new w2 21 #[.int .i32 1, .int .i32 3]
  have e3 : Ext w2 w3 := by rw [h3]; exact (Ext.refl w2).alloc _
  have s3 : w3.heap.size = w.heap.size + 1 + 1 + 1 := by rw [h3]; simp [s2]
  rw [s2, ← h3] at B3
  rw [← h3]
  obtain ⟨w4, h4⟩ : ∃ x, x = w3.alloc (.cells #[.slice (some ⟨w.heap.size + 1, 0, none⟩) 2 2, .int .u8 1, .int .i32 4, .slice (some ⟨w.heap.size + 1 + 1, 0, none⟩) 2 2, .int .u8 1, .int .i32 6] 52) := ⟨_, rfl⟩
  have B4 := Box.new w3 52 #[.slice (some ⟨w.heap.size + 1, 0, none⟩) 2 2, .int .u8 1, .int .i32 4, .slice (some ⟨w.heap.size + 1 + 1, 0, none⟩) 2 2, .int .u8 1, .int .i32 6]
  have e4 : Ext w3 w4 := by rw [h4]; exact (Ext.refl w3).alloc _
  rw [s3, ← h4] at B4
  rw [← h4]
  refine ⟨⟨_, 2, _, 2, rfl, iRow2 (((B1.ext e2).ext e3).ext e4), by decide, by omega, fun _ => ⟨_, 0, rfl, fun j r hj => ?_⟩⟩, ((e1.trans e2).trans e3).trans e4⟩
  rcases j with _ | _ | j
  · have hj : some (⟨[1, 1], 1, 4⟩ : IRow) = some r := hj
    obtain rfl := Option.some.inj hj
    exact ⟨_, 2, B4.cell 0, B4.cell 1, B4.cell 2, iRow2 ((B2.ext e3).ext e4)⟩
  · have hj : some (⟨[1, 3], 1, 6⟩ : IRow) = some r := hj
    obtain rfl := Option.some.inj hj
    exact ⟨_, 2, B4.cell 3, B4.cell 4, B4.cell 5, iRow2 (B3.ext e4)⟩
  · have hj : none = some r := hj
    cases hj
theorem mem2 (w : World) : IPV (((w.alloc (.cells #[.int .i32 0, .int .i32 0] 21)).alloc (.cells #[.int .i32 1, .int .i32 1] 21)).alloc (.cells #[.slice (some ⟨w.heap.size + 1, 0, none⟩) 2 2, .int .u8 1, .int .i32 (-1)] 52))
    (.agg #[.slice (some ⟨w.heap.size, 0, none⟩) 2 2, .slice (some ⟨w.heap.size + 1 + 1, 0, none⟩) 1 1, .int .u8 0]) ip2 ∧
    Ext w (((w.alloc (.cells #[.int .i32 0, .int .i32 0] 21)).alloc (.cells #[.int .i32 1, .int .i32 1] 21)).alloc (.cells #[.slice (some ⟨w.heap.size + 1, 0, none⟩) 2 2, .int .u8 1, .int .i32 (-1)] 52)) := by
  obtain ⟨w1, h1⟩ : ∃ x, x = w.alloc (.cells #[.int .i32 0, .int .i32 0] 21) := ⟨_, rfl⟩
  have B1 := Box.new w 21 #[.int .i32 0, .int .i32 0]
  have e1 : Ext w w1 := by rw [h1]; exact (Ext.refl w).alloc _
  have s1 : w1.heap.size = w.heap.size + 1 := by rw [h1]; simp
  rw [← h1] at B1 ⊢
  obtain ⟨w2, h2⟩ : ∃ x, x = w1.alloc (.cells #[.int .i32 1, .int .i32 1] 21) := ⟨_, rfl⟩
  have B2 := Box.new w1 21 #[.int .i32 1, .int .i32 1]
  have e2 : Ext w1 w2 := by rw [h2]; exact (Ext.refl w1).alloc _
  have s2 : w2.heap.size = w.heap.size + 1 + 1 := by rw [h2]; simp [s1]
  rw [s1, ← h2] at B2
  rw [← h2]
  obtain ⟨w4, h4⟩ : ∃ x, x = w2.alloc (.cells #[.slice (some ⟨w.heap.size + 1, 0, none⟩) 2 2, .int .u8 1, .int .i32 (-1)] 52) := ⟨_, rfl⟩
  have B4 := Box.new w2 52 #[.slice (some ⟨w.heap.size + 1, 0, none⟩) 2 2, .int .u8 1, .int .i32 (-1)]
  have e4 : Ext w2 w4 := by rw [h4]; exact (Ext.refl w2).alloc _
  rw [s2, ← h4] at B4
  rw [← h4]
  refine ⟨⟨_, 2, _, 1, rfl, iRow2 ((B1.ext e2).ext e4), by decide, by omega, fun _ => ⟨_, 0, rfl, fun j r hj => ?_⟩⟩, (e1.trans e2).trans e4⟩
  rcases j with _ | j
  · have hj : some (⟨[1, 1], 1, -1⟩ : IRow) = some r := hj
    obtain rfl := Option.some.inj hj
    exact ⟨_, 2, B4.cell 0, B4.cell 1, B4.cell 2, iRow2 (B2.ext e4)⟩
  · have hj : none = some r := hj
    cases hj
theorem res1 {k : Int} {z : Rat} {nx ny : Nat} {xs ys : Nat → Rat} (h : Res ip1.pl.toP k z nx xs ny ys) : k = 0 ∧ z = 12 ∧ nx = 2 ∧ xs 0 = 4 ∧ xs 1 = 0 := by
  obtain ⟨x, y, hs, h0, h1⟩ := ip1_sol
  rcases h with ⟨a, _⟩ | ⟨_, b, c, d⟩
  · rw [ip1_valid] at a; cases a
  · rw [hs] at b c d
    rcases d with ⟨d1, d2, d3, d4⟩ | ⟨d1, _⟩
    · injection d4 with d4 d5 d6
      subst d5
      exact ⟨b, c, d2, h0, h1⟩
    · exact absurd b d1
end Go.Proofs.Ythafabkjidifeaa.Lp

namespace Go.Proofs.Ythafabkjidifeaa.Lp
open Go.RowKit Go.Proofs.Ythafabkjidifeaa.Big Go.Proofs.Ythafabkjidifeaa.Rt

def fitB (p : IP) : Bool := decide (p.obj.length ≤ 8) && decide (p.rows.length ≤ 8)
theorem fitB_iff {p : IP} : fitB p = true ↔ p.obj.length ≤ 8 ∧ p.rows.length ≤ 8 := by
  unfold fitB; rw [Bool.and_eq_true, decide_eq_true_eq, decide_eq_true_eq]
theorem IP.pn (p : IP) : p.pl.toP.n = p.obj.length := by show (p.obj.map _).length = _; simp
theorem IP.pm (p : IP) : p.pl.toP.m = p.rows.length := by show (p.rows.map _).length = _; simp
end Go.Proofs.Ythafabkjidifeaa.Lp
