/- What lies in memory: worlds that grow; the call's own blocks; slices of ints, of strings. -/
import Derived.Test.YtnbmmgeoglfbdaaDoorProg
import Derived.WalkKit
import Derived.WalkSpells
import Derived.Lib.Hide
import Derived.Deep.Draws
import Derived.Laws.Rows
set_option linter.unusedVariables false
set_option linter.unusedSimpArgs false
namespace Go.Proofs.YtnbmmgeoglfbdaaDoor.Big
open Go.RowKit

/-- all that was there is as it was -/
def Ext (w w' : World) : Prop := Below w.heap.size w w'
theorem Ext.refl (w : World) : Ext w w := Below.refl _ _
theorem Ext.size {w w' : World} (h : Ext w w') : w.heap.size ≤ w'.heap.size := Below.size h
theorem Ext.trans {a b c : World} (h : Ext a b) (k : Ext b c) : Ext a c := Below.trans h (Below.mono k h.size)
theorem Ext.drew {a w : World} (h : Ext a w) : Ext a w.drew := Below.drew h
theorem Ext.drewN {a w : World} (h : Ext a w) (n : Nat) : Ext a (w.drewN n) := ⟨h.os, h.tape, h.output, h.size, h.block⟩
theorem Ext.alloc {a w : World} (h : Ext a w) (o : Obj) : Ext a (w.alloc o) := Below.alloc h h.size o
theorem Ext.set {a w : World} (h : Ext a w) {p : Addr} (hp : a.heap.size ≤ p.block) (u : Value) : Ext a (w.setCell p u) := Below.setCell h hp u
theorem Ext.cell {w w' : World} (h : Ext w w') {p : Addr} {v : Value} (hc : w.cell? p = some v) : w'.cell? p = some v :=
  (Below.cell h (World.block_lt_of_cell? w _ hc)).trans hc
theorem Ext.below {B : Nat} {a w w' : World} (h : Below B a w) (k : Ext w w') (hB : B ≤ w.heap.size) : Below B a w' := Below.trans h (Below.mono k hB)

/-- block b is just these cells -/
def Box (w : World) (b : Nat) (E : TypeId) (cs : Array Value) : Prop := w.heap[b]? = some (.cells cs E (0, 0))
section
variable {w w' : World} {b : Nat} {E : TypeId} {cs : Array Value}
theorem Box.lt (h : Box w b E cs) : b < w.heap.size := by
  rcases Nat.lt_or_ge b w.heap.size with hlt | hge
  · exact hlt
  · unfold Box at h; rw [Array.getElem?_eq_none hge] at h; cases h
theorem Box.cell (h : Box w b E cs) (i : Nat) : w.cell? ⟨b, i, none⟩ = cs[i]? := cell_of_row w b i cs E (0, 0) h
theorem Box.frozen (h : Box w b E cs) (i : Nat) : w.frozen? ⟨b, i, none⟩ = false := by unfold Box at h; simp [World.frozen?, h]
theorem Box.new (w : World) (E : TypeId) (cs : Array Value) : Box (w.alloc (.cells cs E)) w.heap.size E cs := heap_alloc_new w _
theorem Box.drew (h : Box w b E cs) : Box w.drew b E cs := h
theorem Box.drewN (h : Box w b E cs) (n : Nat) : Box (w.drewN n) b E cs := h
theorem Box.ext (h : Box w b E cs) (k : Ext w w') : Box w' b E cs := (Below.block k b h.lt).trans h
theorem Box.alloc (h : Box w b E cs) (o : Obj) : Box (w.alloc o) b E cs := h.ext ((Ext.refl w).alloc o)
theorem Box.far (h : Box w b E cs) {p : Addr} (hp : b ≠ p.block) (u : Value) : Box (w.setCell p u) b E cs := (Below.heap_setCell w p u b hp).trans h
theorem Box.set (h : Box w b E cs) (i : Nat) (u : Value) : Box (w.setCell ⟨b, i, none⟩ u) b E (cs.setIfInBounds i u) := by
  unfold Box at h ⊢
  simp [World.setCell, Array.getElem?_modify, h]
theorem Box.s1c {x y : Value} (h : Box w b E #[x, y]) (u : Value) : (w.setCell ⟨b, 0, none⟩ u).cell? ⟨b, 1, none⟩ = some y := (h.set 0 u).cell 1
theorem Box.s1f {x y : Value} (h : Box w b E #[x, y]) (u : Value) : (w.setCell ⟨b, 0, none⟩ u).frozen? ⟨b, 1, none⟩ = false := (h.set 0 u).frozen 1
theorem Box.c0 {x : Value} {r : List Value} (h : Box w b E (x :: r).toArray) : w.cell? ⟨b, 0, none⟩ = some x := h.cell 0
theorem Box.c1 {x y : Value} {r : List Value} (h : Box w b E (x :: y :: r).toArray) : w.cell? ⟨b, 1, none⟩ = some y := h.cell 1
end
/-- three boxes in a row: two arguments and a result -/
theorem boxes3 (w : World) (E : TypeId) (c0 c1 c2 : Array Value) :
    Box (((w.alloc (.cells c0 E)).alloc (.cells c1 E)).alloc (.cells c2 E)) w.heap.size E c0 ∧ Box (((w.alloc (.cells c0 E)).alloc (.cells c1 E)).alloc (.cells c2 E)) (w.heap.size + 1) E c1 ∧
    Box (((w.alloc (.cells c0 E)).alloc (.cells c1 E)).alloc (.cells c2 E)) (w.heap.size + 1 + 1) E c2 ∧ Ext w (((w.alloc (.cells c0 E)).alloc (.cells c1 E)).alloc (.cells c2 E)) := by
  have s1 : (w.alloc (.cells c0 E)).heap.size = w.heap.size + 1 := by simp
  have s2 : ((w.alloc (.cells c0 E)).alloc (.cells c1 E)).heap.size = w.heap.size + 1 + 1 := by simp
  refine ⟨((Box.new w E c0).alloc _).alloc _, ?_, ?_, (((Ext.refl w).alloc _).alloc _).alloc _⟩
  · have := (Box.new (w.alloc (.cells c0 E)) E c1).alloc (.cells c2 E); rwa [s1] at this
  · have := Box.new ((w.alloc (.cells c0 E)).alloc (.cells c1 E)) E c2; rwa [s2] at this
theorem boxes2 (w : World) (E : TypeId) (c0 c1 : Array Value) :
    Box ((w.alloc (.cells c0 E)).alloc (.cells c1 E)) w.heap.size E c0 ∧ Box ((w.alloc (.cells c0 E)).alloc (.cells c1 E)) (w.heap.size + 1) E c1 ∧ Ext w ((w.alloc (.cells c0 E)).alloc (.cells c1 E)) := by
  have s1 : (w.alloc (.cells c0 E)).heap.size = w.heap.size + 1 := by simp
  refine ⟨(Box.new w E c0).alloc _, ?_, ((Ext.refl w).alloc _).alloc _⟩
  have := Box.new (w.alloc (.cells c0 E)) E c1; rwa [s1] at this
/-- a region's worlds: as W0 was but for the blocks of R and new blocks; all that lay before w is as it was -/
structure KE (R : List Nat) (w W0 w' : World) : Prop where
  ext : Ext w w'
  hr : ∀ r, r ∈ R → w.heap.size ≤ r
  size : W0.heap.size ≤ w'.heap.size
  block : ∀ k, k < W0.heap.size → k ∉ R → w'.heap[k]? = W0.heap[k]?
section
variable {R : List Nat} {b : Nat} {w W0 w' w'' : World} {E : TypeId} {cs : Array Value}
theorem KE.start (h : Ext w W0) (hr : ∀ r, r ∈ R → w.heap.size ≤ r) : KE R w W0 W0 := ⟨h, hr, Nat.le_refl _, fun _ _ _ => rfl⟩
theorem KE.drew (h : KE R w W0 w') : KE R w W0 w'.drew := ⟨h.ext.drew, h.hr, h.size, h.block⟩
theorem KE.drewN (h : KE R w W0 w') (n : Nat) : KE R w W0 (w'.drewN n) := ⟨h.ext.drewN n, h.hr, h.size, h.block⟩
theorem KE.step (h : KE R w W0 w') (k : Ext w' w'') : KE R w W0 w'' :=
  ⟨h.ext.trans k, h.hr, Nat.le_trans h.size k.size, fun i hi hr => (k.block i (Nat.lt_of_lt_of_le hi h.size)).trans (h.block i hi hr)⟩
theorem KE.alloc (h : KE R w W0 w') (o : Obj) : KE R w W0 (w'.alloc o) := h.step ((Ext.refl _).alloc o)
theorem KE.set {p : Addr} (h : KE R w W0 w') (hp : p.block ∈ R) (u : Value) : KE R w W0 (w'.setCell p u) :=
  ⟨h.ext.set (h.hr _ hp) u, h.hr, by simpa [World.setCell] using h.size, fun k hk hne => (Below.heap_setCell w' p u k (fun e => hne (e ▸ hp))).trans (h.block k hk hne)⟩
theorem KE.bx (h : KE R w W0 w') (hb : Box W0 b E cs) (hne : b ∉ R) : Box w' b E cs := (h.block b hb.lt hne).trans hb
theorem KE.box (hb : Box W0 b E cs) (hne : b ∉ R) (i : Nat) : ∀ w', KE R w W0 w' → w'.cell? ⟨b, i, none⟩ = cs[i]? := fun w' h =>
  ((cell_of_row w' b i cs E (0, 0) ((h.block b hb.lt hne).trans hb)))
theorem KE.c0 {x : Value} {l : List Value} (hb : Box W0 b E (x :: l).toArray) (hne : b ∉ R) : ∀ w', KE R w W0 w' → w'.cell? ⟨b, 0, none⟩ = some x := KE.box hb hne 0
theorem KE.c1 {x y : Value} {l : List Value} (hb : Box W0 b E (x :: y :: l).toArray) (hne : b ∉ R) : ∀ w', KE R w W0 w' → w'.cell? ⟨b, 1, none⟩ = some y := KE.box hb hne 1
end

abbrev BL := List UInt8
/-- a list of bytes as a string -/
def str (l : BL) : ByteArray := ⟨l.toArray⟩
theorem str_list (l : BL) : (str l).data.toList = l := by simp [str]
theorem str_size (l : BL) : (str l).size = l.length := rfl
theorem str_of (s : ByteArray) : str s.data.toList = s := by cases s; simp [str]
theorem str_inj {l m : BL} (h : str l = str m) : l = m := by have := congrArg (fun s => s.data.toList) h; simpa [str] using this
/-- n elements of one cell lie from A on: the slice value v, of capacity c, reads as f over xs -/
def Row (w : World) (v : Value) (vs : List Value) : Prop :=
  ∃ A c, v = .slice A vs.length c ∧ vs.length ≤ c ∧ c ≤ 9223372036854775807 ∧ (0 < vs.length → ∃ b off, A = some ⟨b, off, none⟩ ∧ ∀ j u, vs[j]? = some u → w.cell? ⟨b, off + j, none⟩ = some u)
theorem Row.ext {w w' : World} {v : Value} {vs : List Value} (h : Row w v vs) (k : Ext w w') : Row w' v vs := by
  obtain ⟨A, c, rfl, h1, h2, h3⟩ := h
  refine ⟨A, c, rfl, h1, h2, fun hn => ?_⟩
  obtain ⟨b, off, rfl, hc⟩ := h3 hn
  exact ⟨b, off, rfl, fun j u hj => k.cell (hc j u hj)⟩
theorem Row.nil (w : World) (A : Option Addr) (c : Nat) (hc : c ≤ 9223372036854775807) : Row w (.slice A 0 c) [] := ⟨A, c, rfl, by simp, hc, fun h => absurd h (by simp)⟩
theorem Row.shape {w : World} {v : Value} {vs : List Value} (h : Row w v vs) : ∃ A c, v = .slice A vs.length c := by
  obtain ⟨A, c, rfl, _⟩ := h; exact ⟨A, c, rfl⟩
theorem Row.inj {w : World} {A : Option Addr} {n c : Nat} {vs : List Value} (h : Row w (.slice A n c) vs) : n = vs.length ∧ vs.length ≤ c ∧ c ≤ 9223372036854775807 ∧ (0 < vs.length → ∃ b off, A = some ⟨b, off, none⟩ ∧ ∀ j u, vs[j]? = some u → w.cell? ⟨b, off + j, none⟩ = some u) := by
  obtain ⟨A', c', e, h1⟩ := h
  injection e with a b c
  subst a b c
  exact ⟨rfl, h1⟩
theorem Row.tail {w : World} {b off n c : Nat} {u : Value} {vs : List Value} (h : Row w (.slice (some ⟨b, off, none⟩) n c) (u :: vs)) (A : Option Addr) (hA : 0 < vs.length → A = some ⟨b, off + 1, none⟩) : Row w (.slice A vs.length (c - 1)) vs := by
  obtain ⟨h0, h1, h2, h3⟩ := h.inj
  simp at h1
  refine ⟨A, c - 1, rfl, by omega, by omega, fun hn => ?_⟩
  obtain ⟨b', off', e, hc⟩ := h3 (by simp)
  injection e with e
  injection e with e1 e2
  subst e1 e2
  refine ⟨b, off + 1, hA hn, fun j x hj => ?_⟩
  have := hc (j + 1) x (by simpa using hj)
  rwa [show off + 1 + j = off + (j + 1) by omega]
theorem Row.take {w : World} {A : Option Addr} {n c : Nat} {vs : List Value} (h : Row w (.slice A n c) vs) (k : Nat) (hk : k ≤ vs.length) : Row w (.slice A k c) (vs.take k) := by
  obtain ⟨h0, h1, h2, h3⟩ := h.inj
  refine ⟨A, c, by rw [List.length_take, Nat.min_eq_left hk], by rw [List.length_take]; omega, h2, fun hn => ?_⟩
  rw [List.length_take] at hn
  obtain ⟨b', off', e, hc⟩ := h3 (by omega)
  refine ⟨b', off', e, fun j x hj => ?_⟩
  rw [List.getElem?_take] at hj
  split at hj
  · exact hc j x hj
  · cases hj
/-- ints; strings -/
def iV (xs : List Int) : List Value := xs.map (Value.int .i64)
def sV (xs : List BL) : List Value := xs.map fun s => Value.string (str s)
theorem iV_get {xs : List Int} {j : Nat} {x : Int} (h : xs[j]? = some x) : (iV xs)[j]? = some (.int .i64 x) := by simp [iV, h]
theorem sV_get {xs : List BL} {j : Nat} {x : BL} (h : xs[j]? = some x) : (sV xs)[j]? = some (.string (str x)) := by simp [sV, h]
@[simp] theorem iV_len (xs : List Int) : (iV xs).length = xs.length := by simp [iV]
@[simp] theorem sV_len (xs : List BL) : (sV xs).length = xs.length := by simp [sV]
end Go.Proofs.YtnbmmgeoglfbdaaDoor.Big
