/- Lists and rows that a law makes in a box of a problem (LpBox, LpDual): what stays when a block is written. -/
import Derived.Test.YtgffcblldebelaaDoorLX6A
import Derived.Test.YtgffcblldebelaaDoorLXC
import Derived.Deep.MidRow
set_option linter.unusedVariables false
set_option linter.unusedSimpArgs false
namespace Go.Proofs.YtgffcblldebelaaDoor.Lp
open Go.RowKit Go.Proofs.YtgffcblldebelaaDoor.Big Go.Proofs.YtgffcblldebelaaDoor.Rt

theorem own_apt {w : World} {b1 b2 k1 k2 n1 n2 : Nat} {E1 E2 : TypeId} {v1 v2 : Value} {xs1 xs2 : List Value} (o1 : OwnX w b1 E1 k1 v1 n1 xs1) (o2 : OwnX w b2 E2 k2 v2 n2 xs2) (hE : E1 ≠ E2) : ∀ b, v1.ownBlock = some b → v2.ownBlock ≠ some b := fun b h1 h2 => by
  obtain ⟨-, -, cs, hcs⟩ := o1.lt h1
  obtain ⟨-, -, cs', hcs'⟩ := o2.lt h2
  exact row_ne hcs hcs' hE rfl
/-- rows stay when a block is written that is not one of theirs -/
theorem MRows.frA {P : Nat → Prop} {w w' : World} {base lo m : Nat} {p : Prob} {rA : Nat → Option Addr} {rc : Nat → Nat} {X : Nat → Option Value} (h : MRows w base lo m p rA rc X) (k : Fr P w w') (hP : ∀ i, i < m → 0 < p.len i → ∀ b, rA i = some ⟨b, 0, none⟩ → ¬ P b) : MRows w' base lo m p rA rc X := by
  refine ⟨fun i hi => ?_, fun i hi => ?_, h.apart⟩
  · obtain ⟨h1, h2, h3, x, B, d, e, y, B', d', e', g2, g3, g4, g5, hr⟩ := h.row i hi
    exact ⟨h1, h2, h3, x, B, d, e, y, B', d', e', g2, g3, g4, g5, k.rat hr⟩
  · obtain ⟨h1, h2, h3⟩ := h.coef i hi
    exact ⟨h1, h2, fun hn => by obtain ⟨b, e, hr, hb⟩ := h3 hn; exact ⟨b, e, hr.fr k (hP i hi hn b e), hb⟩⟩
/-- a list of numbers and rows of the call's own, in a box -/
structure Two (w : World) (base qb : Nat) (vO vR : Value) (ko kr : Nat) (f : Nat → Rat) (p : Prob) (rA : Nat → Option Addr) (rc : Nat → Nat) : Prop where
  box : Box w qb 31 #[vO, vR]
  obj : OwnQ w base vO ko f
  rows : OwnM w base base vR kr p rA rc
  apart : ∀ i, i < kr → 0 < p.len i → ∀ b, rA i = some ⟨b, 0, none⟩ → vO.ownBlock ≠ some b
section
variable {w w' X y : World} {base qb ko kr : Nat} {vO vR v6 : Value} {f : Nat → Rat} {p : Prob} {rA : Nat → Option Addr} {rc : Nat → Nat}
theorem Two.ext (h : Two w base qb vO vR ko kr f p rA rc) (k : Ext w w') : Two w' base qb vO vR ko kr f p rA rc := ⟨h.box.ext k, h.obj.ext k, h.rows.ext k, h.apart⟩
theorem Two.new {w : World} (hw : w.heap.size = qb) : Two (w.alloc (.cells #[.slice none 0 0, .slice none 0 0] 31)) base qb (.slice none 0 0) (.slice none 0 0) 0 0 f p rA rc :=
  ⟨by rw [← hw]; exact Box.new w _ _, OwnQ.nil _ _ _, OwnM.nil _ _ _ _ _ _, fun i hi => absurd hi (by omega)⟩
/-- what a block of another kind than numbers bears: rows of numbers are elsewhere -/
theorem blk_ne {w : World} {base k n : Nat} {E : TypeId} {v : Value} {xs : List Value} (o : OwnX w base E k v n xs) (hE : E ≠ 37) {b m : Nat} {g : Nat → Rat} (hb : RowR w b m g) : v.ownBlock ≠ some b := fun e => own_ne o hE b m g hb e
theorem Two.pushO {zs : List Value} (h : Two X base qb vO vR ko kr f p rA rc) (o6 : OwnX y base 37 4 v6 (ko + 1) zs) (a6 : ∀ j, j < ko + 1 → At y zs.toArray (j * 4) (f j)) (r6 : Fr (fun g => vO.ownBlock = some g) X y) (s6 : Fresh X vO v6) :
    Two (y.setCell ⟨qb, 0, none⟩ v6) base qb v6 vR (ko + 1) kr f p rA rc ∧ Fr (fun g => vO.ownBlock = some g ∨ g = qb) X (y.setCell ⟨qb, 0, none⟩ v6) := by
  obtain ⟨ys, oq, aq⟩ := h.obj
  obtain ⟨xs, ox, mx⟩ := h.rows
  have tb := boxR h.box oq r6 (by decide)
  obtain ⟨A, c, rfl⟩ := oq.shape
  have hF : Fr (fun k => k = qb) y (y.setCell ⟨qb, 0, none⟩ v6) := (Fr.refl (fun k => k = qb) y).set (p := ⟨qb, 0, none⟩) rfl (fun z => by rw [tb.c0]; intro e; cases e) _
  have ox6 := ox.fr r6 (fun g hg e => own_apt oq ox (by decide) g e hg)
  have mx6 := mx.frA r6 (fun i hi hl b e => h.apart i hi hl b e)
  have o7 := o6.fr hF (fun g hg e => by obtain ⟨-, -, cur, hcur⟩ := o6.lt hg; exact row_ne tb hcur (by decide) e.symm)
  have ox7 := ox6.fr hF (fun g hg e => by obtain ⟨-, -, cur, hcur⟩ := ox6.lt hg; exact row_ne tb hcur (by decide) e.symm)
  refine ⟨⟨tb.set 0 _, ⟨zs, o7, fun j hj => (a6 j hj).fr hF⟩, ⟨xs, ox7, mx6.fr hF (box_ne tb (by decide))⟩, fun i hi hl b e => ?_⟩, (r6.weak (fun b hb => .inl hb)).trans (hF.weak (fun b hb => .inr hb))⟩
  rcases s6 with s | ⟨g, s, hg⟩
  · rw [s]; exact h.apart i hi hl b e
  · rw [s]
    obtain ⟨b', e', hr, -⟩ := (mx.coef i hi).2.2 hl
    rw [e] at e'
    injection e' with e'
    injection e' with e'
    subst e'
    intro e2
    injection e2 with e2
    have := hr.lt
    omega
theorem Two.pushR {xs : List Value} (h : Two X base qb vO vR ko kr f p rA rc) (ox : OwnX X base 48 6 vR kr xs) (mx : MRows X base base kr p rA rc (fun i => xs[i]?)) {A : Option Addr} {c : Nat} {x z : Bool} {B B' : Option Addr} {d e d' e' : Nat}
    (o6 : OwnX y base 48 6 v6 (kr + 1) (xs ++ [.slice A (p.len kr) c, .int .u8 (p.rel kr : Int), .bool x, .slice B d e, .bool z, .slice B' d' e'])) (r6 : Fr (fun g => vR.ownBlock = some g) X y) (hr : p.rel kr ≤ 255) (hq : RatV X (.agg #[.bool x, .slice B d e, .bool z, .slice B' d' e']) (p.right kr)) (hc : RatsO X base A (p.len kr) c (p.coef kr))
    (hne : ∀ i, i < kr → 0 < p.len i → 0 < p.len kr → rA i ≠ A) (hO : 0 < p.len kr → ∀ b, A = some ⟨b, 0, none⟩ → vO.ownBlock ≠ some b) :
    Two (y.setCell ⟨qb, 1, none⟩ v6) base qb vO v6 ko (kr + 1) f p (fun i => if i = kr then A else rA i) (fun i => if i = kr then c else rc i) ∧ Fr (fun g => vR.ownBlock = some g ∨ g = qb) X (y.setCell ⟨qb, 1, none⟩ v6) := by
  obtain ⟨ys, oq, aq⟩ := h.obj
  have tb := boxR h.box ox r6 (by decide)
  obtain ⟨A1, c1, rfl⟩ := ox.shape
  have hF : Fr (fun k => k = qb) y (y.setCell ⟨qb, 1, none⟩ v6) := (Fr.refl (fun k => k = qb) y).set (p := ⟨qb, 1, none⟩) rfl (fun z => by rw [tb.c1]; intro e; cases e) _
  have oq6 := oq.fr r6 (fun g hg e => own_apt ox oq (by decide) g e hg)
  have mx6 := MRows.push ox mx r6 hr hq hc hne
  have o7 := o6.fr hF (fun g hg e => by obtain ⟨-, -, cur, hcur⟩ := o6.lt hg; exact row_ne tb hcur (by decide) e.symm)
  have oq7 := oq6.fr hF (fun g hg e => by obtain ⟨-, -, cur, hcur⟩ := oq6.lt hg; exact row_ne tb hcur (by decide) e.symm)
  refine ⟨⟨tb.set 1 _, ⟨ys, oq7, fun j hj => ((aq j hj).fr r6).fr hF⟩, ⟨_, o7, mx6.fr hF (box_ne tb (by decide))⟩, fun i hi hl b e => ?_⟩, (r6.weak (fun b hb => .inl hb)).trans (hF.weak (fun b hb => .inr hb))⟩
  by_cases him : i = kr
  · subst him; rw [if_pos rfl] at e; exact hO hl b e
  · rw [if_neg him] at e; exact h.apart i (by omega) hl b e
theorem Two.prob (h : Two w base qb vO vR p.n p.m p.obj p rA rc) : ProbV w (.agg #[vO, vR]) p := by
  obtain ⟨ys, oq, aq⟩ := h.obj
  obtain ⟨xs, ox, mx⟩ := h.rows
  obtain ⟨A, c, rfl⟩ := oq.shape
  have hq : RatsV w A p.n c p.obj := (OwnQ.rats ⟨ys, oq, aq⟩).rats
  rcases Nat.eq_zero_or_pos p.m with hm | hm
  · obtain ⟨A1, c1, rfl⟩ := ox.shape
    have hcap : p.m ≤ c1 ∧ c1 ≤ 9223372036854775807 := by
      rcases ox.2 with ⟨e, e0⟩ | ⟨g, cap, cur, e, -, -, h6, h7, -⟩
      · injection e with e1 e2 e3; subst e3; omega
      · injection e with e1 e2 e3; subst e3; unfold maxLen at h7; omega
    exact ⟨A, c, A1, c1, rfl, hq, hcap.1, hcap.2, fun hm' => absurd hm' (by omega)⟩
  · obtain ⟨g, cap, rfl, -, -, h1, h2, -, -, hcell⟩ := ox.cells hm
    refine ⟨A, c, _, cap, rfl, hq, h1, h2, fun _ => ⟨g, rfl, fun i hi => ?_⟩⟩
    obtain ⟨g0, g1, g2, x, B, d, e, z, B', d', e', g3, g4, g5, g6, hr⟩ := mx.row i hi
    exact ⟨rA i, rc i, x, B, d, e, z, B', d', e', hcell _ _ g0, hcell _ _ g1, hcell _ _ g3, hcell _ _ g4, hcell _ _ g5, hcell _ _ g6, (mx.coef i hi).rats, g2, hr⟩
end
/-- the cells of a made list of numbers -/
def zerosR (n : Nat) : Array Value := madeCells (Value.agg #[.bool false, .slice none 0 0, .bool false, .slice none 0 0]).cells (n * 4)
theorem run_makeR (n : Nat) (hn : n ≤ 1099511627776) (w : World) : (Instr.makeSlice 28 (.int .i64 (n : Int)) (.int .i64 (n : Int))).run Tryd.prog w = .ok (.slice (some ⟨w.heap.size, 0, none⟩) n n) (w.alloc (.cells (zerosR n) 37)) := by
  obtain ⟨i0, hi, hz0, hz1, hz2⟩ := info_parts infoRat
  have h := run_make (P := Tryd.prog) w 28 37 i0 _ Tryd.underlying28 hi hz0 .i64 .i64 n n (by omega) (Int.le_refl _) (by rw [hz2]; omega) (by omega)
  simp only [Int.toNat_natCast] at h
  rw [hz1] at h
  exact h
theorem zerosR_row {w : World} {b n : Nat} (h : w.heap[b]? = some (.cells (zerosR n) 37 (0, 0))) : RowR w b n (fun _ => 0) := by
  refine ⟨_, h, ?_, fun j hj => ?_⟩
  · unfold zerosR; rw [size_madeCells]; exact Nat.le_refl _
  have key : ∀ i, i < 4 → (zerosR n)[j * 4 + i]? = (#[Value.bool false, .slice none 0 0, .bool false, .slice none 0 0] : Array Value)[i]? := by
    intro i hi
    have h1 : (j * 4 + i) % 4 = i := by omega
    have h2 : j * 4 + i < n * 4 := by omega
    simp [zerosR, madeCells, Value.cells, h2, h1]
    rcases (show i = 0 ∨ i = 1 ∨ i = 2 ∨ i = 3 by omega) with rfl | rfl | rfl | rfl <;> rfl
  exact ⟨_, _, _, _, _, _, _, _, key 0 (by omega), key 1 (by omega), key 2 (by omega), key 3 (by omega), RatV.zero w⟩
theorem boxB0e {w w' : World} {E0 E1 : TypeId} {c0 c1 : Array Value} (h : Ext ((w.alloc (.cells c0 E0)).alloc (.cells c1 E1)) w') : Box w' w.heap.size E0 c0 := ((Box.new w E0 c0).alloc _).ext h
theorem boxB1e {w w' : World} {E0 E1 : TypeId} {c0 c1 : Array Value} (h : Ext ((w.alloc (.cells c0 E0)).alloc (.cells c1 E1)) w') : Box w' (w.heap.size + 1) E1 c1 := by
  have := (Box.new (w.alloc (.cells c0 E0)) E1 c1).ext h
  simpa using this
theorem boxB0f {w w' : World} {E0 E1 : TypeId} {c0 c1 : Array Value} (h : Ext ((w.alloc (.cells c0 E0)).alloc (.cells c1 E1)).drew w') : Box w' w.heap.size E0 c0 := ((Box.new w E0 c0).alloc _).drew.ext h
theorem boxB1f {w w' : World} {E0 E1 : TypeId} {c0 c1 : Array Value} (h : Ext ((w.alloc (.cells c0 E0)).alloc (.cells c1 E1)).drew w') : Box w' (w.heap.size + 1) E1 c1 := by
  have := (Box.new (w.alloc (.cells c0 E0)) E1 c1).drew.ext h
  simpa using this
theorem step_sto6 {w : World} {ops : Array Oper} {o : Oper} {a : Act} {K : Act → World → Prop} {Q : Exit → Act → World → Prop} {Z : Prop}
    (hg : o.guard = none) (x y : Operand) (ho : o.op = .store 48 x y) (b off : Nat) (v0 v1 v2 v3 v4 v5 : Value) (hx : a.eval x = .pointer (some ⟨b, off, none⟩)) (hy : a.eval y = .agg #[v0, v1, v2, v3, v4, v5])
    (ht : w.there b off 6) (h1 : (#[v0, v1, v2, v3, v4, v5] : Array Value).all (·.oneCell') = true) (h : K (a.put o.dst undef) (set6 w b off v0 v1 v2 v3 v4 v5)) :
    if Region.wanted o (yielded ops a.tmps) = true then Oper.wp Tryd.prog o a w K Q else Z := by
  have hw : Region.wanted o (yielded ops a.tmps) = true := by simp [Region.wanted, hg]
  rw [if_pos hw]
  exact wp_store_mid 48 x y ho b off #[v0, v1, v2, v3, v4, v5] hx hy ht (by kernel_rfl) h1 h
theorem there6 {w : World} {b : Nat} {E : TypeId} {a0 a1 a2 a3 a4 a5 : Value} (h : Box w b E #[a0, a1, a2, a3, a4, a5]) : w.there b 0 6 := by
  intro j hj
  rw [Nat.zero_add, h.cell j]
  exact ⟨by rcases (show j = 0 ∨ j = 1 ∨ j = 2 ∨ j = 3 ∨ j = 4 ∨ j = 5 by omega) with rfl | rfl | rfl | rfl | rfl | rfl <;> rfl, h.frozen j⟩
theorem Box.new2 (w : World) (o : Obj) (E : TypeId) (cs : Array Value) : Box ((w.alloc o).alloc (.cells cs E)) (w.heap.size + 1) E cs := by
  have := Box.new (w.alloc o) E cs
  simpa using this
theorem later6 {w0 w : World} {b : Nat} (h : Ext w0 w) (hb : w0.heap.size ≤ b) (v0 v1 v2 v3 v4 v5 : Value) : Ext w0 (set6 w b 0 v0 v1 v2 v3 v4 v5) :=
  (((((h.set (p := ⟨b, 0, none⟩) hb v0).set (p := ⟨b, 0 + 1, none⟩) hb v1).set (p := ⟨b, 0 + 2, none⟩) hb v2).set (p := ⟨b, 0 + 3, none⟩) hb v3).set (p := ⟨b, 0 + 4, none⟩) hb v4).set (p := ⟨b, 0 + 5, none⟩) hb v5
theorem later6L {w0 w : World} {b : Nat} (h : Later w0 w) (hb : w0.heap.size ≤ b) (v0 v1 v2 v3 v4 v5 : Value) : Later w0 (set6 w b 0 v0 v1 v2 v3 v4 v5) := later6 h hb v0 v1 v2 v3 v4 v5
/-- a row written into its own box -/
theorem row_done {wc W : World} {rb bc n : Nat} {p p' : Bool} {A A' : Option Addr} {m c m' c' : Nat} {q : Rat} {kq : Nat} {v0 v1 : Value} (hB : Box W rb 48 #[.slice none 0 0, .int .u8 0, .bool false, .slice none 0 0, .bool false, .slice none 0 0]) (hZ : Box W bc 37 (zerosR n))
    (hv : RatB W (.agg #[.bool p, .slice A m c, .bool p', .slice A' m' c']) q kq) (hS : Ext wc W) (h1 : wc.heap.size ≤ rb) (h2 : wc.heap.size ≤ bc) :
    Box (set6 W rb 0 v0 v1 (.bool p) (.slice A m c) (.bool p') (.slice A' m' c')) rb 48 #[v0, v1, .bool p, .slice A m c, .bool p', .slice A' m' c'] ∧ RowR (set6 W rb 0 v0 v1 (.bool p) (.slice A m c) (.bool p') (.slice A' m' c')) bc n (fun _ => 0) ∧
      RatB (set6 W rb 0 v0 v1 (.bool p) (.slice A m c) (.bool p') (.slice A' m' c')) (.agg #[.bool p, .slice A m c, .bool p', .slice A' m' c']) q kq ∧ (wc.heap.size ≤ bc ∧ wc.heap.size ≤ rb) ∧ Ext wc (set6 W rb 0 v0 v1 (.bool p) (.slice A m c) (.bool p') (.slice A' m' c')) := by
  have hF : Fr (fun k => k = rb) W (set6 W rb 0 v0 v1 (.bool p) (.slice A m c) (.bool p') (.slice A' m' c')) := by
    refine set6_fr ?_ ?_ ?_ ?_ ?_ ?_ <;> intro z <;> rw [hB.cell] <;> intro e <;> cases e
  have hne : ¬ bc = rb := row_ne hZ hB (by decide)
  exact ⟨(((((hB.set 0 _).set 1 _).set 2 _).set 3 _).set 4 _).set 5 _, (zerosR_row hZ).fr hF hne, hF.ratB hv, ⟨h2, h1⟩, later6 hS h1 _ _ _ _ _ _⟩
end Go.Proofs.YtgffcblldebelaaDoor.Lp
