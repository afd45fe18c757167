/- The columns of the dual in memory; what the dual is (LpDual). -/
import Derived.Test.YtgffcblldebelaaDoorLYA
import Derived.Test.YtgffcblldebelaaDoorLV5
set_option linter.unusedVariables false
set_option linter.unusedSimpArgs false
namespace Go.Proofs.YtgffcblldebelaaDoor.Lp
open Go.RowKit Go.Proofs.YtgffcblldebelaaDoor.Big Go.Proofs.YtgffcblldebelaaDoor.Rt

/-- the blocks that a step writes: the list's own, the box -/
def PD (v : Value) (db g : Nat) : Prop := v.ownBlock = some g ∨ g = db
def sgL (L : List (Int × Nat)) : List Value := L.map fun c => .int .i64 c.1
def ofL (L : List (Int × Nat)) : List Value := L.map fun c => .int .i64 (c.2 : Int)
theorem sgL_snoc (L : List (Int × Nat)) (z : Int) (i : Nat) : sgL (L ++ [(z, i)]) = sgL L ++ [.int .i64 z] := by simp [sgL]
theorem ofL_snoc (L : List (Int × Nat)) (z : Int) (i : Nat) : ofL (L ++ [(z, i)]) = ofL L ++ [.int .i64 (i : Int)] := by simp [ofL]
/-- two lists of ints of the call's own: signs and rows -/
structure Cols (w : World) (base : Nat) (v7 v8 : Value) (n : Nat) (L : List (Int × Nat)) : Prop where
  len : L.length = n
  sg : OwnX w base 3 1 v7 n (sgL L)
  of : OwnX w base 3 1 v8 n (ofL L)
  apart : ∀ g, v7.ownBlock = some g → v8.ownBlock ≠ some g
section
variable {w w' X y1 y1a y2 : World} {base n i : Nat} {v7 v8 v7' v8' : Value} {L : List (Int × Nat)} {z : Int}
theorem Cols.nil (w : World) (base : Nat) : Cols w base (.slice none 0 0) (.slice none 0 0) 0 [] := ⟨rfl, OwnX.nil _ _ _ _, OwnX.nil _ _ _ _, fun g e => by cases e⟩
theorem Cols.ext (h : Cols w base v7 v8 n L) (k : Ext w w') : Cols w' base v7 v8 n L := ⟨h.len, h.sg.ext k, h.of.ext k, h.apart⟩
theorem Cols.fr {P : Nat → Prop} (h : Cols w base v7 v8 n L) (k : Fr P w w') (hP : ∀ g cs, w.heap[g]? = some (.cells cs 3 (0, 0)) → ¬ P g) : Cols w' base v7 v8 n L :=
  ⟨h.len, h.sg.fr k (fun g hg => by obtain ⟨_, _, cur, hc⟩ := h.sg.lt hg; exact hP g cur hc), h.of.fr k (fun g hg => by obtain ⟨_, _, cur, hc⟩ := h.of.lt hg; exact hP g cur hc), h.apart⟩
theorem Cols.of1 (h : Cols w base v7 v8 n L) (hx : Ext w X) (r7 : Fr (fun g => v7.ownBlock = some g) X y1) (hxa : Ext y1 y1a) : OwnX y1a base 3 1 v8 n (ofL L) :=
  ((h.of.ext hx).fr r7 (fun g hg e => h.apart g e hg)).ext hxa
theorem Cols.push (h : Cols w base v7 v8 n L) (hx : Ext w X) (o7 : OwnX y1 base 3 1 v7' (n + 1) (sgL L ++ [.int .i64 z])) (r7 : Fr (fun g => v7.ownBlock = some g) X y1) (s7 : Fresh X v7 v7') (hxa : Ext y1 y1a)
    (o8 : OwnX y2 base 3 1 v8' (n + 1) (ofL L ++ [.int .i64 (i : Int)])) (r8 : Fr (fun g => v8.ownBlock = some g) y1a y2) (s8 : Fresh y1a v8 v8') : Cols y2 base v7' v8' (n + 1) (L ++ [(z, i)]) := by
  have hX := h.ext hx
  have key : ∀ g, v7'.ownBlock = some g → v8.ownBlock ≠ some g := fun g hg e => by
    rcases s7 with s | ⟨g', s, hb⟩
    · rw [s] at hg; exact h.apart g hg e
    · rw [s] at hg
      injection hg with hg
      have := (hX.of.lt e).2.1
      omega
  refine ⟨by rw [List.length_append, h.len]; rfl, ?_, ?_, fun g hg e => ?_⟩
  · rw [sgL_snoc]; exact (o7.ext hxa).fr r8 (fun g hg e => key g hg e)
  · rw [ofL_snoc]; exact o8
  · rcases s8 with s | ⟨g', s, hb⟩
    · rw [s] at e; exact key g hg e
    · rw [s] at e
      injection e with e
      have h1 := (o7.lt hg).2.1
      have h2 := hxa.size
      omega
theorem Cols.pushE {a : World} (h : Cols w base v7 v8 n L) (hx : Ext w X) (r7 : Fr (fun g => v7.ownBlock = some g) X y1) (hxa : Ext y1 y1a) (r8 : Fr (fun g => v8.ownBlock = some g) y1a y2) (k : Ext a w) (ha : a.heap.size ≤ base) : Ext a y2 :=
  r8.ext ((r7.ext (k.trans hx) (fun g hg => Nat.le_trans ha (h.sg.lt hg).1)).trans hxa) (fun g hg => Nat.le_trans ha (h.of.lt hg).1)
theorem Cols.at {A7 A8 : Option Addr} {c7 c8 : Nat} (h : Cols w base (.slice A7 n c7) (.slice A8 n c8) n L) {k : Nat} {c : Int × Nat} (hk : L[k]? = some c) : ∃ g7 g8, A7 = some ⟨g7, 0, none⟩ ∧ A8 = some ⟨g8, 0, none⟩ ∧ w.cell? ⟨g7, k, none⟩ = some (.int .i64 c.1) ∧ w.cell? ⟨g8, k, none⟩ = some (.int .i64 (c.2 : Int)) := by
  have hkl := (List.getElem?_eq_some_iff.1 hk).1
  have hn := h.len
  obtain ⟨g7, d7, e7, -, -, -, -, -, -, h7⟩ := h.sg.cells (by omega)
  obtain ⟨g8, d8, e8, -, -, -, -, -, -, h8⟩ := h.of.cells (by omega)
  injection e7 with e7
  injection e8 with e8
  exact ⟨g7, g8, e7, e8, h7 k _ (by simp [sgL, hk]), h8 k _ (by simp [ofL, hk])⟩
end
/-- a further number in the row's own list -/
theorem coef_push {a X y : World} {rb : Nat} {vC v6 : Value} {k : Nat} {f : Nat → Rat} {u1 u2 u3 u4 u5 : Value} {zs : List Value} (B : Box X rb 48 #[vC, u1, u2, u3, u4, u5]) (oq : OwnQ X a.heap.size vC k f) (o6 : OwnX y a.heap.size 37 4 v6 (k + 1) zs) (a6 : ∀ j, j < k + 1 → At y zs.toArray (j * 4) (f j)) (r6 : Fr (fun g => vC.ownBlock = some g) X y) (hX : Ext a X) (hrb : a.heap.size ≤ rb) :
    Box (y.setCell ⟨rb, 0, none⟩ v6) rb 48 #[v6, u1, u2, u3, u4, u5] ∧ OwnQ (y.setCell ⟨rb, 0, none⟩ v6) a.heap.size v6 (k + 1) f ∧ Ext a (y.setCell ⟨rb, 0, none⟩ v6) := by
  obtain ⟨ys, ox, ax⟩ := oq
  have tb := boxR B ox r6 (by decide)
  have hF : Fr (fun b => b = rb) y (y.setCell ⟨rb, 0, none⟩ v6) := Fr.set (P := fun b => b = rb) (Fr.refl _ y) (p := ⟨rb, 0, none⟩) rfl (fun z => by
    rw [show y.cell? ⟨rb, 0, none⟩ = some vC from tb.cell 0]
    obtain ⟨A, c, rfl⟩ := ox.shape
    intro e; cases e) _
  refine ⟨tb.set 0 v6, ⟨zs, o6.fr hF (fun g hg e => by obtain ⟨-, -, cur, hcur⟩ := o6.lt hg; exact row_ne tb hcur (by decide) e.symm), fun j hj => (a6 j hj).fr hF⟩, ?_⟩
  exact (r6.ext hX (fun g hg => (ox.lt hg).1)).set (p := ⟨rb, 0, none⟩) hrb _
/-- plain: the dual's numbers -/
theorem cols_len (rels : List Nat) : ∀ m, m ≤ (cols rels m).length ∧ (cols rels m).length ≤ 2 * m
  | 0 => by simp [cols]
  | m + 1 => by
    have ih := cols_len rels m
    have h : (colsR (rels.getD m 0) m).length ≤ 2 ∧ 1 ≤ (colsR (rels.getD m 0) m).length := by
      unfold colsR
      by_cases h3 : rels.getD m 0 = 3
      · rw [h3]; simp
      · rw [if_pos h3]
        split <;> simp
    show m + 1 ≤ (cols rels m ++ colsR _ m).length ∧ (cols rels m ++ colsR _ m).length ≤ _
    rw [List.length_append]; omega
theorem cols_take (rels : List Nat) {i m : Nat} (h : i ≤ m) : (cols rels i).length ≤ (cols rels m).length := by
  induction m with
  | zero => have : i = 0 := by omega
            rw [this]; exact Nat.le_refl _
  | succ m ih =>
    rcases Nat.lt_or_ge i (m + 1) with h1 | h1
    · refine Nat.le_trans (ih (by omega)) ?_
      show _ ≤ (cols rels m ++ colsR _ m).length
      rw [List.length_append]; omega
    · have : i = m + 1 := by omega
      rw [this]; exact Nat.le_refl _
theorem dual_facts (P : PL) : P.dual.toP.n = P.cols.length ∧ P.dual.toP.m = P.obj.length ∧ (∀ (k : Nat) (c : Int × Nat), P.cols[k]? = some c → P.dual.toP.obj k = P.toP.right c.2 * ((-c.1 : Int) : Rat)) ∧
    ∀ j, j < P.obj.length → P.dual.toP.len j = P.cols.length ∧ P.dual.toP.rel j = 3 ∧ P.dual.toP.right j = P.toP.obj j ∧ ∀ (k : Nat) (c : Int × Nat), P.cols[k]? = some c → P.dual.toP.coef j k = P.toP.coef c.2 j * ((c.1 : Int) : Rat) := by
  refine ⟨?_, ?_, fun k c hc => ?_, fun j hj => ?_⟩
  · show (P.cols.map _).length = _; simp
  · show ((List.range P.obj.length).map _).length = _; simp
  · show (P.cols.map fun c => (P.row c.2).right * ((-c.1 : Int) : Rat)).getD k 0 = _
    rw [List.getD_eq_getElem?_getD, List.getElem?_map, hc]; rfl
  · have hr : P.dual.rows.getD j RL.zero = ⟨P.cols.map fun c => (P.row c.2).coef.getD j 0 * ((c.1 : Int) : Rat), 3, P.obj.getD j 0⟩ := by
      show ((List.range P.obj.length).map _).getD j RL.zero = _
      rw [List.getD_eq_getElem?_getD, List.getElem?_map, List.getElem?_range hj]; rfl
    refine ⟨?_, ?_, ?_, fun k c hc => ?_⟩
    · show (P.dual.rows.getD j RL.zero).coef.length = _
      rw [hr]; simp
    · show (P.dual.rows.getD j RL.zero).rel = _
      rw [hr]
    · show (P.dual.rows.getD j RL.zero).right = _
      rw [hr]; rfl
    · show (P.dual.rows.getD j RL.zero).coef.getD k 0 = _
      rw [hr]
      show (P.cols.map fun c => (P.row c.2).coef.getD j 0 * ((c.1 : Int) : Rat)).getD k 0 = _
      rw [List.getD_eq_getElem?_getD, List.getElem?_map, hc]; rfl
theorem dual_valid {P : PL} (hn : 1 ≤ P.rows.length) (h8 : P.rows.length ≤ 8) (hn8 : P.obj.length ≤ 8) : P.dual.valid = true := by
  rw [PL.valid_iff]
  have hl := cols_len P.rels P.rows.length
  have hc : P.dual.obj.length = P.cols.length := by show (P.cols.map _).length = _; simp
  have hl' : P.rows.length ≤ P.cols.length ∧ P.cols.length ≤ 2 * P.rows.length := hl
  have hm : P.dual.rows.length = P.obj.length := by show ((List.range P.obj.length).map _).length = _; simp
  refine ⟨by omega, by omega, by omega, fun r hr => ?_⟩
  obtain ⟨j, -, rfl⟩ := List.mem_map.1 (show r ∈ (List.range P.obj.length).map _ from hr)
  exact ⟨by rw [hc]; simp, by show 1 ≤ 3; omega, by show 3 ≤ 3; omega⟩
theorem QB_sign {q : Rat} {z : Int} (h : QB 2 q) (hz : z = 1 ∨ z = -1) : QB 2 (q * (z : Rat)) := by
  rcases hz with rfl | rfl
  · rw [show q * ((1 : Int) : Rat) = q by show q * 1 = q; grind]; exact h
  · rw [show q * ((-1 : Int) : Rat) = -q by show q * (-1) = -q; grind]; exact QB_neg h
theorem dual_bnd {P : PL} (hn : 1 ≤ P.rows.length) (h8 : P.rows.length ≤ 8) (hn8 : P.obj.length ≤ 8) (hc : ∀ i, i < P.rows.length → ∀ j, j < P.obj.length → QB 2 (P.toP.coef i j)) (hr : ∀ i, i < P.rows.length → QB 2 (P.toP.right i)) (ho : ∀ j, j < P.obj.length → QB 2 (P.toP.obj j)) : Bnd P.dual.toP 24000000 := by
  have hv := dual_valid hn h8 hn8
  obtain ⟨f1, f2, f3, f4⟩ := dual_facts P
  have hK := bK3_mono (m := P.dual.toP.m) (m' := 8) (k := 8) (k' := 8) (h := 2) (hr := 2) (hr' := 2) (hd := 2) (by omega) (Nat.le_refl _) (Nat.le_refl _)
  have hK0 : bK3 8 8 2 2 2 ≤ 24000000 := by decide
  have hget : ∀ k, k < P.dual.toP.n → ∃ c, P.cols[k]? = some c ∧ c.2 < P.rows.length ∧ (c.1 = 1 ∨ c.1 = -1) := fun k hk => by
    rw [f1] at hk
    obtain ⟨c, hc⟩ : ∃ c, P.cols[k]? = some c := ⟨_, List.getElem?_eq_getElem hk⟩
    have hm := cols_mem (show c ∈ cols P.rels P.rows.length from List.mem_of_getElem? hc)
    exact ⟨c, hc, hm.1, hm.2.imp (fun h => h.1) (fun h => h.1)⟩
  refine (Bnd.of (PL.vrel hv) 8 2 2 2 (.inr (by omega)) (by omega) (by omega) (by omega) (Nat.le_trans hK (Nat.le_trans hK0 (by omega))) (fun k hk => ?_) (fun j hj k hk => ?_) (fun j hj => ?_)).up (Nat.le_trans hK hK0) (by omega)
  · obtain ⟨c, h1, h2, h3⟩ := hget k hk
    rw [f3 k c h1]
    exact QB_sign (hr _ h2) (h3.elim (fun e => .inr (by rw [e])) (fun e => .inl (by rw [e]; rfl)))
  · obtain ⟨c, h1, h2, h3⟩ := hget k hk
    rw [f2] at hj
    rw [(f4 j hj).2.2.2 k c h1]
    exact QB_sign (hc _ h2 _ hj) h3
  · rw [f2] at hj
    rw [(f4 j hj).2.2.1]
    exact ho _ hj
end Go.Proofs.YtgffcblldebelaaDoor.Lp
