/- Trees of a search, and its state, in memory. -/
import Derived.Test.YthafabkjidifeaaIA
import Derived.Test.YthafabkjidifeaaINC
import Derived.Test.YthafabkjidifeaaLNB
import Derived.Test.YthafabkjidifeaaRArr
set_option linter.unusedVariables false
set_option linter.unusedSimpArgs false
namespace Go.Proofs.Ythafabkjidifeaa.Lp
open Go.RowKit Go.Proofs.Ythafabkjidifeaa.Big Go.Proofs.Ythafabkjidifeaa.Rt

/-- block b is an array of n ints, f j at place j -/
def Pts (w : World) (b n : Nat) (f : Nat → Int) : Prop := ∃ cs : Array Value, w.heap[b]? = some (.cells cs 3 (0, 0)) ∧ cs.size = n ∧ ∀ j, j < n → cs[j]? = some (.int .i64 (f j))
section
variable {w w' : World} {b n : Nat} {f g : Nat → Int}
theorem Pts.cell (h : Pts w b n f) {j : Nat} (hj : j < n) : w.cell? ⟨b, j, none⟩ = some (.int .i64 (f j)) := by
  obtain ⟨cs, h1, _, h3⟩ := h; exact (cell_of_row w b j cs _ (0, 0) h1).trans (h3 j hj)
theorem Pts.frozen (h : Pts w b n f) (j : Nat) : w.frozen? ⟨b, j, none⟩ = false := by
  obtain ⟨cs, h1, _⟩ := h; simp [World.frozen?, h1]
theorem Pts.fr {P : Nat → Prop} (h : Pts w b n f) (k : Fr P w w') (hp : ¬ P b) : Pts w' b n f := by
  obtain ⟨cs, h1, h2⟩ := h; exact ⟨cs, k.row hp h1, h2⟩
theorem Pts.ext (h : Pts w b n f) (k : Ext w w') : Pts w' b n f := h.fr (P := fun _ => False) (Fr.of k) id
theorem Pts.congr (h : Pts w b n f) (e : ∀ j, j < n → f j = g j) : Pts w b n g := by
  obtain ⟨cs, h1, h2, h3⟩ := h; exact ⟨cs, h1, h2, fun j hj => by rw [h3 j hj, e j hj]⟩
theorem Pts.lt (h : Pts w b n f) : b < w.heap.size := by
  obtain ⟨cs, h1, _⟩ := h
  rcases Nat.lt_or_ge b w.heap.size with hlt | hge
  · exact hlt
  · rw [Array.getElem?_eq_none hge] at h1; cases h1
theorem Pts.set (h : Pts w b n f) {j : Nat} (hj : j < n) (x : Int) : Pts (w.setCell ⟨b, j, none⟩ (.int .i64 x)) b n (fun i => if i = j then x else f i) := by
  obtain ⟨cs, h1, h2, h3⟩ := h
  refine ⟨cs.setIfInBounds j (.int .i64 x), ?_, by simpa using h2, fun i hi => (?_ : _ = some (Value.int .i64 (if i = j then x else f i)))⟩
  · simp [World.setCell, Array.getElem?_modify, h1]
  · by_cases e : i = j
    · subst e; rw [if_pos rfl]; simp [h2, hi]
    · rw [if_neg e, Array.getElem?_setIfInBounds_ne (Ne.symm e)]; exact h3 i hi
theorem Pts.ofK (h : ArrK .i64 w b n 3 (fun _ => 0)) : Pts w b n (fun _ => 0) := h
end

/-- the blocks b to h hold a tree -/
def TreeV (K : Nat) (w : World) : BT → Nat → Nat → Prop
  | .leaf e m y, b, h => b < h ∧ ∃ A c, Box w b 95 (NodeC (-1) 0 none none e A m c) ∧ RatsV w A m c y ∧ ∀ j, j < m → QB K (y j)
  | .node v f x z, b, h => ∃ bx hx bz, b < bx ∧ TreeV K w x bx hx ∧ hx ≤ bz ∧ TreeV K w z bz h ∧ Box w b 95 (NodeC v f (some ⟨bx, 0, none⟩) (some ⟨bz, 0, none⟩) false none 0 0)
theorem TreeV.lt {K : Nat} {w : World} {t : BT} {b h : Nat} (k : TreeV K w t b h) : b < h := by
  induction t generalizing b h with
  | leaf e m y => exact k.1
  | node v f x z ihx ihz =>
    obtain ⟨bx, hx, bz, h1, h2, h3, h4, -⟩ := k
    have := ihx h2
    have := ihz h4
    omega
theorem TreeV.up {K : Nat} {w : World} {t : BT} {b h h' : Nat} (k : TreeV K w t b h) (e : h ≤ h') : TreeV K w t b h' := by
  induction t generalizing b h with
  | leaf _ m y => exact ⟨Nat.lt_of_lt_of_le k.1 e, k.2⟩
  | node v f x z ihx ihz =>
    obtain ⟨bx, hx, bz, h1, h2, h3, h4, h5⟩ := k
    exact ⟨bx, hx, bz, h1, h2, h3, ihz h4 e, h5⟩
theorem TreeV.fr {P : Nat → Prop} {K : Nat} {w w' : World} {t : BT} {b h : Nat} (k : TreeV K w t b h) (r : Fr P w w') (hn : ∀ k cs, w.heap[k]? = some (.cells cs 95 (0, 0)) → ¬ P k) (hr : ∀ b n f, RowR w b n f → ¬ P b) : TreeV K w' t b h := by
  induction t generalizing b h with
  | leaf _ m y =>
    obtain ⟨h1, A, c, h2, h3, h4⟩ := k
    exact ⟨h1, A, c, r.box h2 (hn _ _ h2), h3.fr r hr, h4⟩
  | node v f x z ihx ihz =>
    obtain ⟨bx, hx, bz, h1, h2, h3, h4, h5⟩ := k
    exact ⟨bx, hx, bz, h1, ihx h2, h3, ihz h4, r.box h5 (hn _ _ h5)⟩
theorem TreeV.ext {K : Nat} {w w' : World} {t : BT} {b h : Nat} (k : TreeV K w t b h) (r : Ext w w') : TreeV K w' t b h := k.fr (P := fun _ => False) (Fr.of r) (fun _ _ _ => id) (fun _ _ _ _ => id)

/-- block sb holds the state of a search -/
def SearchV (w : World) (sb L n : Nat) (s : BS) : Prop :=
  ∃ fo va A m c, Box w sb 88 #[.int .i64 (L : Int), .int .i64 (s.solved : Int), .bool fo, .int .i64 va, .slice A m c] ∧ (s.best = none → fo = false) ∧
    ∀ v x, s.best = some (v, x) → fo = true ∧ va = v ∧ fit v = true ∧ m = n ∧ c = n ∧ ∃ g, A = some ⟨g, 0, none⟩ ∧ Pts w g n x
theorem SearchV.ext {w w' : World} {sb L n : Nat} {s : BS} (h : SearchV w sb L n s) (k : Ext w w') : SearchV w' sb L n s := by
  obtain ⟨fo, va, A, m, c, h1, h2, h3⟩ := h
  refine ⟨fo, va, A, m, c, h1.ext k, h2, fun v x e => ?_⟩
  obtain ⟨a1, a2, a0, a3, a4, g, a5, a6⟩ := h3 v x e
  exact ⟨a1, a2, a0, a3, a4, g, a5, a6.ext k⟩
/-- what a search writes -/
abbrev FrS (sb : Nat) (w w' : World) : Prop := Fr (fun k => k = sb) w w'
theorem search_row {w : World} {sb : Nat} {cs : Array Value} (h : Box w sb 88 cs) : ∀ b n f, RowR w b n f → ¬ (b = sb) := by
  rintro b n f ⟨ds, h1, -⟩ rfl
  unfold Box at h
  rw [h1] at h
  injection h with h
  injection h with _ h _
  exact absurd h (by decide)
theorem search_node {w : World} {sb : Nat} {cs : Array Value} (h : Box w sb 88 cs) : ∀ k ds, w.heap[k]? = some (.cells ds 95 (0, 0)) → ¬ (k = sb) := by
  rintro k ds h1 rfl
  unfold Box at h
  rw [h1] at h
  injection h with h
  injection h with _ h _
  exact absurd h (by decide)
theorem TreeV.frS {K sb : Nat} {w w' : World} {t : BT} {b h : Nat} {cs : Array Value} (k : TreeV K w t b h) (r : FrS sb w w') (hs : Box w sb 88 cs) : TreeV K w' t b h :=
  k.fr r (search_node hs) (search_row hs)
theorem RatsV.frS {w w' : World} {sb : Nat} {cs : Array Value} {A : Option Addr} {n c : Nat} {f : Nat → Rat} (h : RatsV w A n c f) (r : FrS sb w w') (hs : Box w sb 88 cs) : RatsV w' A n c f := h.fr r (search_row hs)
theorem ProbV.frS {w w' : World} {sb : Nat} {x1 : Int} {cs : List Value} {v : Value} {p : Prob} (h : ProbV w v p) (r : FrS sb w w') (hs : Box w sb 88 (.int .i64 x1 :: cs).toArray) : ProbV w' v p := by
  obtain ⟨Ao, co, Ar, cr, rfl, h1, h2, h3, h4⟩ := h
  refine ⟨Ao, co, Ar, cr, rfl, h1.frS r hs, h2, h3, fun hm => ?_⟩
  obtain ⟨br, e, hr⟩ := h4 hm
  have hne : ¬ (br = sb) := by
    rintro rfl
    obtain ⟨Ac, cc, x, A, d, e', y, A', d', e'', g0, -⟩ := hr 0 hm
    have c0 := hs.c0
    rw [Nat.zero_mul] at g0
    rw [g0] at c0
    cases c0
  refine ⟨br, e, fun i hi => ?_⟩
  obtain ⟨Ac, cc, x, A, d, e', y, A', d', e'', g0, g1, g2, g3, g4, g5, k1, k2, k3⟩ := hr i hi
  exact ⟨Ac, cc, x, A, d, e', y, A', d', e'', r.cell hne g0, r.cell hne g1, r.cell hne g2, r.cell hne g3, r.cell hne g4, r.cell hne g5, k1.frS r hs, k2, r.rat k3⟩

theorem ProbV.congr {w : World} {v : Value} {p q : Prob} (h : ProbV w v p) (hn : p.n = q.n) (hm : p.m = q.m) (ho : ∀ j, j < p.n → p.obj j = q.obj j) (hr : ∀ i, i < p.m → p.len i = q.len i ∧ p.rel i = q.rel i ∧ p.right i = q.right i ∧ ∀ j, j < p.len i → p.coef i j = q.coef i j) : ProbV w v q := by
  obtain ⟨Ao, co, Ar, cr, rfl, h1, h2, h3, h4⟩ := h
  refine ⟨Ao, co, Ar, cr, by rw [hn, hm], ?_, by omega, h3, fun hq => ?_⟩
  · rw [← hn]; exact h1.congr ho
  · obtain ⟨br, e, hrow⟩ := h4 (by omega)
    refine ⟨br, e, fun i hi => ?_⟩
    obtain ⟨Ac, cc, x, A, d, e', y, A', d', e'', g0, g1, g2, g3, g4, g5, k1, k2, k3⟩ := hrow i (by omega)
    obtain ⟨r1, r2, r3, r4⟩ := hr i (by omega)
    refine ⟨Ac, cc, x, A, d, e', y, A', d', e'', by rw [← r1]; exact g0, by rw [← r2]; exact g1, g2, g3, g4, g5, ?_, by rw [← r2]; exact k2, by rw [← r3]; exact k3⟩
    rw [← r1]; exact k1.congr r4
/-- a problem as lists -/
def Prob.toL (p : Prob) : PL := ⟨(List.range p.n).map p.obj, (List.range p.m).map fun i => ⟨(List.range (p.len i)).map (p.coef i), p.rel i, p.right i⟩⟩
theorem getD_range {α : Type} (f : Nat → α) (z : α) {n i : Nat} (h : i < n) : ((List.range n).map f).getD i z = f i := by
  rw [List.getD_eq_getElem?_getD, List.getElem?_map, List.getElem?_range h]; rfl
theorem Prob.toL_row (p : Prob) {i : Nat} (h : i < p.m) : p.toL.rows.getD i RL.zero = ⟨(List.range (p.len i)).map (p.coef i), p.rel i, p.right i⟩ := getD_range _ _ h
theorem ProbV.toL {w : World} {v : Value} {p : Prob} (h : ProbV w v p) : ProbV w v p.toL.toP := by
  refine h.congr (by show _ = ((List.range p.n).map p.obj).length; simp) (by show _ = ((List.range p.m).map _).length; simp) (fun j hj => (getD_range _ _ hj).symm) (fun i hi => ?_)
  show _ = (p.toL.rows.getD i RL.zero).coef.length ∧ _ = (p.toL.rows.getD i RL.zero).rel ∧ _ = (p.toL.rows.getD i RL.zero).right ∧ ∀ j, j < p.len i → p.coef i j = (p.toL.rows.getD i RL.zero).coef.getD j 0
  rw [p.toL_row hi]
  exact ⟨by simp, rfl, rfl, fun j hj => (getD_range _ _ hj).symm⟩
/-- the row that a branch adds -/
def branL (n v : Nat) (f : Int) (b : Bool) : RL := ⟨(List.range n).map (fun j => if j = v then 1 else 0), if b = true then 3 else 1, ((f + (if b = true then 1 else 0) : Int) : Rat)⟩
theorem ProbV.side {w : World} {x : Value} {p : Prob} {v : Nat} {f : Int} {b : Bool} (h : ProbV w x (⟨p.toL.obj, p.toL.rows ++ [branL p.n v f b]⟩ : PL).toP) : ProbV w x (p.side v f b) := by
  have hlm : p.toL.rows.length = p.m := by show ((List.range p.m).map _).length = _; simp
  have hln : p.toL.obj.length = p.n := by show ((List.range p.n).map _).length = _; simp
  refine h.congr hln (by show (p.toL.rows ++ [branL p.n v f b]).length = p.m + 1; rw [List.length_append, hlm]; rfl) (fun j hj => getD_range _ _ (by rw [← hln]; exact hj)) (fun i hi => ?_)
  have hi : i < (p.toL.rows ++ [branL p.n v f b]).length := hi
  rw [List.length_append, hlm] at hi
  have hi : i < p.m + 1 := hi
  show ((p.toL.rows ++ [branL p.n v f b]).getD i RL.zero).coef.length = (if i = p.m then p.n else p.len i) ∧ ((p.toL.rows ++ [branL p.n v f b]).getD i RL.zero).rel = (if i = p.m then (if b = true then 3 else 1) else p.rel i) ∧ ((p.toL.rows ++ [branL p.n v f b]).getD i RL.zero).right = (if i = p.m then ((f + (if b = true then 1 else 0) : Int) : Rat) else p.right i) ∧
    ∀ j, j < ((p.toL.rows ++ [branL p.n v f b]).getD i RL.zero).coef.length → ((p.toL.rows ++ [branL p.n v f b]).getD i RL.zero).coef.getD j 0 = (if i = p.m then (fun j => if j = v then 1 else 0) else p.coef i) j
  by_cases e : i = p.m
  · have hg : (p.toL.rows ++ [branL p.n v f b]).getD i RL.zero = branL p.n v f b := by
      rw [List.getD_eq_getElem?_getD, List.getElem?_append_right (by omega), hlm, e, Nat.sub_self]; rfl
    rw [hg, if_pos e, if_pos e, if_pos e, if_pos e]
    refine ⟨by show ((List.range p.n).map _).length = _; simp, rfl, rfl, fun j hj => getD_range _ _ ?_⟩
    have hj : j < ((List.range p.n).map fun j => if j = v then (1 : Rat) else 0).length := hj
    simpa using hj
  · have hg : (p.toL.rows ++ [branL p.n v f b]).getD i RL.zero = p.toL.rows.getD i RL.zero := by
      rw [List.getD_eq_getElem?_getD, List.getD_eq_getElem?_getD, List.getElem?_append_left (by omega)]
    rw [hg, p.toL_row (by omega), if_neg e, if_neg e, if_neg e, if_neg e]
    refine ⟨by simp, rfl, rfl, fun j hj => getD_range _ _ ?_⟩
    have hj : j < ((List.range (p.len i)).map (p.coef i)).length := hj
    simpa using hj
end Go.Proofs.Ythafabkjidifeaa.Lp
