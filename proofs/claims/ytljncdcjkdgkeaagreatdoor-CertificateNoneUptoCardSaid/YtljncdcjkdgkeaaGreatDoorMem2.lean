/- Boxes: the call's own structs of two fields. -/
import Derived.Test.YtljncdcjkdgkeaaGreatDoorMem
set_option linter.unusedVariables false
set_option linter.unusedSimpArgs false
namespace Go.Proofs.YtljncdcjkdgkeaaGreatDoor.Big
open Go.RowKit

/-- block b is just these cells -/
def Box (w : World) (b : Nat) (E : TypeId) (cs : Array Value) : Prop := w.heap[b]? = some (.cells cs E (0, 0))
section
variable {w w' : World} {b : Nat} {E : TypeId} {cs : Array Value}
theorem Box.lt (h : Box w b E cs) : b < w.heap.size := by
  rcases Nat.lt_or_ge b w.heap.size with hlt | hge
  · exact hlt
  · unfold Box at h; rw [Array.getElem?_eq_none hge] at h; cases h
theorem Box.cell (h : Box w b E cs) (i : Nat) : w.cell? ⟨b, i, none⟩ = cs[i]? := cell_of_row w b i cs E (0, 0) h
theorem Box.frozen (h : Box w b E cs) (i : Nat) : w.frozen? ⟨b, i, none⟩ = false := by unfold Box at h; simp [World.frozen?, h]
theorem Box.new (w : World) (E : TypeId) (cs : Array Value) : Box (w.alloc (.cells cs E)) w.heap.size E cs := heap_alloc_new w _
theorem Box.drew (h : Box w b E cs) : Box w.drew b E cs := h
theorem Box.drewN (h : Box w b E cs) (n : Nat) : Box (w.drewN n) b E cs := h
theorem Box.ext (h : Box w b E cs) (k : Ext w w') : Box w' b E cs := (Below.block k b h.lt).trans h
theorem Box.alloc (h : Box w b E cs) (o : Obj) : Box (w.alloc o) b E cs := h.ext ((Ext.refl w).alloc o)
theorem Box.far (h : Box w b E cs) {p : Addr} (hp : b ≠ p.block) (u : Value) : Box (w.setCell p u) b E cs := (Below.heap_setCell w p u b hp).trans h
theorem Box.set (h : Box w b E cs) (i : Nat) (u : Value) : Box (w.setCell ⟨b, i, none⟩ u) b E (cs.setIfInBounds i u) := by
  unfold Box at h ⊢
  simp [World.setCell, Array.getElem?_modify, h]
theorem Box.s1c {x y : Value} (h : Box w b E #[x, y]) (u : Value) : (w.setCell ⟨b, 0, none⟩ u).cell? ⟨b, 1, none⟩ = some y := (h.set 0 u).cell 1
theorem Box.s1f {x y : Value} (h : Box w b E #[x, y]) (u : Value) : (w.setCell ⟨b, 0, none⟩ u).frozen? ⟨b, 1, none⟩ = false := (h.set 0 u).frozen 1
theorem Box.c0 {x : Value} {r : List Value} (h : Box w b E (x :: r).toArray) : w.cell? ⟨b, 0, none⟩ = some x := h.cell 0
theorem Box.c1 {x y : Value} {r : List Value} (h : Box w b E (x :: y :: r).toArray) : w.cell? ⟨b, 1, none⟩ = some y := h.cell 1
end
theorem BigV.form {w : World} {v : Value} {z : Int} (h : BigV w v z) : ∃ A n c, v = .agg #[.bool (decide (z < 0)), .slice A n c] ∧ Dig w (.slice A n c) n z.natAbs ∧ Trm n z.natAbs := by
  obtain ⟨s, n, rfl, h1, h2⟩ := h
  have h1' := h1
  obtain ⟨A, c, rfl, _⟩ := h1'
  exact ⟨A, n, c, rfl, h1, h2⟩
/-- three boxes in a row: two arguments and a result -/
theorem boxes3 (w : World) (E : TypeId) (c0 c1 c2 : Array Value) :
    Box (((w.alloc (.cells c0 E)).alloc (.cells c1 E)).alloc (.cells c2 E)) w.heap.size E c0 ∧ Box (((w.alloc (.cells c0 E)).alloc (.cells c1 E)).alloc (.cells c2 E)) (w.heap.size + 1) E c1 ∧
    Box (((w.alloc (.cells c0 E)).alloc (.cells c1 E)).alloc (.cells c2 E)) (w.heap.size + 1 + 1) E c2 ∧ Ext w (((w.alloc (.cells c0 E)).alloc (.cells c1 E)).alloc (.cells c2 E)) := by
  have s1 : (w.alloc (.cells c0 E)).heap.size = w.heap.size + 1 := by simp
  have s2 : ((w.alloc (.cells c0 E)).alloc (.cells c1 E)).heap.size = w.heap.size + 1 + 1 := by simp
  refine ⟨((Box.new w E c0).alloc _).alloc _, ?_, ?_, (((Ext.refl w).alloc _).alloc _).alloc _⟩
  · have := (Box.new (w.alloc (.cells c0 E)) E c1).alloc (.cells c2 E); rwa [s1] at this
  · have := Box.new ((w.alloc (.cells c0 E)).alloc (.cells c1 E)) E c2; rwa [s2] at this
theorem boxes2 (w : World) (E : TypeId) (c0 c1 : Array Value) :
    Box ((w.alloc (.cells c0 E)).alloc (.cells c1 E)) w.heap.size E c0 ∧ Box ((w.alloc (.cells c0 E)).alloc (.cells c1 E)) (w.heap.size + 1) E c1 ∧ Ext w ((w.alloc (.cells c0 E)).alloc (.cells c1 E)) := by
  have s1 : (w.alloc (.cells c0 E)).heap.size = w.heap.size + 1 := by simp
  refine ⟨(Box.new w E c0).alloc _, ?_, ((Ext.refl w).alloc _).alloc _⟩
  have := Box.new (w.alloc (.cells c0 E)) E c1; rwa [s1] at this
/-- a region's worlds: as W0 was but for the blocks of R and new blocks; all that lay before w is as it was -/
structure KE (R : List Nat) (w W0 w' : World) : Prop where
  ext : Ext w w'
  hr : ∀ r, r ∈ R → w.heap.size ≤ r
  size : W0.heap.size ≤ w'.heap.size
  block : ∀ k, k < W0.heap.size → k ∉ R → w'.heap[k]? = W0.heap[k]?
section
variable {R : List Nat} {b : Nat} {w W0 w' w'' : World} {E : TypeId} {cs : Array Value}
theorem KE.start (h : Ext w W0) (hr : ∀ r, r ∈ R → w.heap.size ≤ r) : KE R w W0 W0 := ⟨h, hr, Nat.le_refl _, fun _ _ _ => rfl⟩
theorem KE.drew (h : KE R w W0 w') : KE R w W0 w'.drew := ⟨h.ext.drew, h.hr, h.size, h.block⟩
theorem KE.drewN (h : KE R w W0 w') (n : Nat) : KE R w W0 (w'.drewN n) := ⟨h.ext.drewN n, h.hr, h.size, h.block⟩
theorem KE.step (h : KE R w W0 w') (k : Ext w' w'') : KE R w W0 w'' :=
  ⟨h.ext.trans k, h.hr, Nat.le_trans h.size k.size, fun i hi hr => (k.block i (Nat.lt_of_lt_of_le hi h.size)).trans (h.block i hi hr)⟩
theorem KE.alloc (h : KE R w W0 w') (o : Obj) : KE R w W0 (w'.alloc o) := h.step ((Ext.refl _).alloc o)
theorem KE.set {p : Addr} (h : KE R w W0 w') (hp : p.block ∈ R) (u : Value) : KE R w W0 (w'.setCell p u) :=
  ⟨h.ext.set (h.hr _ hp) u, h.hr, by simpa [World.setCell] using h.size, fun k hk hne => (Below.heap_setCell w' p u k (fun e => hne (e ▸ hp))).trans (h.block k hk hne)⟩
theorem KE.bx (h : KE R w W0 w') (hb : Box W0 b E cs) (hne : b ∉ R) : Box w' b E cs := (h.block b hb.lt hne).trans hb
theorem KE.box (hb : Box W0 b E cs) (hne : b ∉ R) (i : Nat) : ∀ w', KE R w W0 w' → w'.cell? ⟨b, i, none⟩ = cs[i]? := fun w' h =>
  ((cell_of_row w' b i cs E (0, 0) ((h.block b hb.lt hne).trans hb)))
theorem KE.c0 {x : Value} {l : List Value} (hb : Box W0 b E (x :: l).toArray) (hne : b ∉ R) : ∀ w', KE R w W0 w' → w'.cell? ⟨b, 0, none⟩ = some x := KE.box hb hne 0
theorem KE.c1 {x y : Value} {l : List Value} (hb : Box W0 b E (x :: y :: l).toArray) (hne : b ∉ R) : ∀ w', KE R w W0 w' → w'.cell? ⟨b, 1, none⟩ = some y := KE.box hb hne 1
end
theorem boxes4 (w : World) (E : TypeId) (c0 c1 c2 c3 : Array Value) :
    Box ((((w.alloc (.cells c0 E)).alloc (.cells c1 E)).alloc (.cells c2 E)).alloc (.cells c3 E)) w.heap.size E c0 ∧ Box ((((w.alloc (.cells c0 E)).alloc (.cells c1 E)).alloc (.cells c2 E)).alloc (.cells c3 E)) (w.heap.size + 1) E c1 ∧
    Box ((((w.alloc (.cells c0 E)).alloc (.cells c1 E)).alloc (.cells c2 E)).alloc (.cells c3 E)) (w.heap.size + 1 + 1) E c2 ∧ Box ((((w.alloc (.cells c0 E)).alloc (.cells c1 E)).alloc (.cells c2 E)).alloc (.cells c3 E)) (w.heap.size + 1 + 1 + 1) E c3 ∧
    Ext w ((((w.alloc (.cells c0 E)).alloc (.cells c1 E)).alloc (.cells c2 E)).alloc (.cells c3 E)) := by
  obtain ⟨h0, h1, h2, hE⟩ := boxes3 w E c0 c1 c2
  refine ⟨h0.alloc _, h1.alloc _, h2.alloc _, ?_, hE.alloc _⟩
  have := Box.new (((w.alloc (.cells c0 E)).alloc (.cells c1 E)).alloc (.cells c2 E)) E c3
  rwa [show (((w.alloc (.cells c0 E)).alloc (.cells c1 E)).alloc (.cells c2 E)).heap.size = w.heap.size + 1 + 1 + 1 by simp] at this
/-- a value that is no number -/
def notInt : Value → Bool | .int _ _ => false | _ => true
theorem Dig.far {w : World} {b : Nat} {E : TypeId} {x y : Value} {v : Value} {n V : Nat} (h : Dig w v n V) (hb : Box w b E #[x, y]) (hx : notInt x = true) (hy : notInt y = true) (i : Nat) (u : Value) : Dig (w.setCell ⟨b, i, none⟩ u) v n V := by
  obtain ⟨A, c, rfl, h1, h2, h3, h4⟩ := h
  refine ⟨A, c, rfl, h1, h2, h3, fun hn => ?_⟩
  obtain ⟨b', off, rfl, hc⟩ := h4 hn
  refine ⟨b', off, rfl, fun j hj => ?_⟩
  have hcj := hc j hj
  by_cases hbb : b' = b
  · subst hbb
    exfalso
    rw [hb.cell] at hcj
    match off + j, hcj with
    | 0, h => simp at h; subst h; cases hx
    | 1, h => simp at h; subst h; cases hy
    | i + 2, h => simp at h
  · rw [World.cell?_setCell_other _ _ _ _ (fun e => hbb (by injection e with e; exact e.symm))]; exact hcj
/-- an integer stored into the box of a result -/
theorem BigV.put {w : World} {b : Nat} {E : TypeId} {p q : Bool} {A A0 : Option Addr} {n c n0 c0 : Nat} {z : Int} (h : BigV w (.agg #[.bool p, .slice A n c]) z) (hb : Box w b E #[.bool q, .slice A0 n0 c0]) :
    BigV ((w.setCell ⟨b, 0, none⟩ (.bool p)).setCell ⟨b, 1, none⟩ (.slice A n c)) (.agg #[.bool p, .slice A n c]) z ∧
      ((w.setCell ⟨b, 0, none⟩ (.bool p)).setCell ⟨b, 1, none⟩ (.slice A n c)).cell? ⟨b, 0, none⟩ = some (.bool p) ∧
      ((w.setCell ⟨b, 0, none⟩ (.bool p)).setCell ⟨b, 1, none⟩ (.slice A n c)).cell? ⟨b, 1, none⟩ = some (.slice A n c) := by
  have hb1 : Box (w.setCell ⟨b, 0, none⟩ (.bool p)) b E #[.bool p, .slice A0 n0 c0] := hb.set 0 _
  have hb2 : Box ((w.setCell ⟨b, 0, none⟩ (.bool p)).setCell ⟨b, 1, none⟩ (.slice A n c)) b E #[.bool p, .slice A n c] := hb1.set 1 _
  refine ⟨?_, hb2.c0, hb2.c1⟩
  obtain ⟨s, m, e, hd, ht⟩ := h
  exact ⟨s, m, e, (hd.far hb rfl rfl 0 _).far hb1 rfl rfl 1 _, ht⟩
theorem abs_cases (x : Int) : x = (x.natAbs : Int) ∧ ¬ x < 0 ∨ x = -(x.natAbs : Int) ∧ x < 0 := by omega
theorem sgn_mul (x y : Int) : sgn (!(decide (x < 0) == decide (y < 0))) (x.natAbs * y.natAbs) = x * y := by
  unfold sgn
  rcases abs_cases x with ⟨ex, hx⟩ | ⟨ex, hx⟩ <;> rcases abs_cases y with ⟨ey, hy⟩ | ⟨ey, hy⟩ <;> simp only [hx, hy] <;> simp
  · rw [← ex, ← ey]
  · conv => rhs; rw [ex, ey]
    rw [Int.mul_neg]
  · conv => rhs; rw [ex, ey]
    rw [Int.neg_mul]
  · conv => rhs; rw [ex, ey]
    rw [Int.neg_mul_neg]
end Go.Proofs.YtljncdcjkdgkeaaGreatDoor.Big
