/- Rows of problems, as lists: copied, appended to. -/
import Derived.Test.YthafabkjidifeaaLNA
import Derived.Test.YthafabkjidifeaaLN3
set_option linter.unusedVariables false
set_option linter.unusedSimpArgs false
namespace Go.Proofs.Ythafabkjidifeaa.Lp
open Go.RowKit Go.Proofs.Ythafabkjidifeaa.Big Go.Proofs.Ythafabkjidifeaa.Rt

/-- cells in memory as a list -/
theorem src_cells {w : World} {b off L : Nat} (h : ∀ i, i < L → ∃ y, w.cell? ⟨b, off + i, none⟩ = some y ∧ y.oneCell' = true ∧ noU y = true) :
    ∃ xs : List Value, xs.length = L ∧ (∀ i, i < L → xs[i]? = w.cell? ⟨b, off + i, none⟩) ∧ (∀ j y, xs[j]? = some y → w.cell? ((⟨b, off, none⟩ : Addr).add j) = some y) ∧ (∀ y ∈ xs, y.oneCell' = true) ∧ ∀ y ∈ xs, noU y = true := by
  have key : ∀ i, i < L → ((List.range L).map fun j => (w.cell? ⟨b, off + j, none⟩).getD .nilIface)[i]? = w.cell? ⟨b, off + i, none⟩ := fun i hi => by
    obtain ⟨y, hy, _⟩ := h i hi
    rw [List.getElem?_map, List.getElem?_range hi]
    simp [hy]
  refine ⟨_, by simp, key, fun j y hj => ?_, fun y hy => ?_, fun y hy => ?_⟩
  · have hl : j < L := by have := (List.getElem?_eq_some_iff.1 hj).1; simpa using this
    rw [key j hl] at hj
    rw [show (⟨b, off, none⟩ : Addr).add j = ⟨b, off + j, none⟩ by simp [Addr.add]]
    exact hj
  · obtain ⟨j, hj, rfl⟩ := List.mem_map.1 hy
    obtain ⟨y, hy', h1, _⟩ := h j (List.mem_range.1 hj)
    rw [hy']; exact h1
  · obtain ⟨j, hj, rfl⟩ := List.mem_map.1 hy
    obtain ⟨y, hy', _, h2⟩ := h j (List.mem_range.1 hj)
    rw [hy']; exact h2

/-! rows of a law's own problem -/
def IRX (w : World) (X : Nat → Option Value) (off : Nat) (r : IRow) : Prop :=
  ∃ A c, X off = some (.slice A r.coef.length c) ∧ X (off + 1) = some (.int .u8 (r.rel : Int)) ∧ X (off + 2) = some (.int .i32 r.right) ∧ Row w (.slice A r.coef.length c) (wV r.coef)
def IRows (w : World) (X : Nat → Option Value) (rows : List IRow) : Prop := ∀ j r, rows[j]? = some r → IRX w X (j * 3) r
theorem IRX.ext {w w' : World} {X : Nat → Option Value} {off : Nat} {r : IRow} (h : IRX w X off r) (k : Ext w w') : IRX w' X off r := by
  obtain ⟨A, c, h1, h2, h3, h4⟩ := h
  exact ⟨A, c, h1, h2, h3, h4.ext k⟩
theorem IRX.X {w : World} {X Y : Nat → Option Value} {off off' : Nat} {r : IRow} (h : IRX w X off r) (e : ∀ i, i < 3 → Y (off' + i) = X (off + i)) : IRX w Y off' r := by
  obtain ⟨A, c, h1, h2, h3, h4⟩ := h
  exact ⟨A, c, (e 0 (by omega)).trans h1, (e 1 (by omega)).trans h2, (e 2 (by omega)).trans h3, h4⟩
theorem IRows.ext {w w' : World} {X : Nat → Option Value} {rows : List IRow} (h : IRows w X rows) (k : Ext w w') : IRows w' X rows := fun j r hj => (h j r hj).ext k
theorem IRows.push {w : World} {xs ys : List Value} {rows : List IRow} {r : IRow} (h : IRows w (fun i => xs[i]?) rows) (hl : xs.length = rows.length * 3) (hr : IRX w (fun i => ys[i]?) 0 r) : IRows w (fun i => (xs ++ ys)[i]?) (rows ++ [r]) := by
  intro j s hj
  rcases Nat.lt_or_ge j rows.length with hlt | hge
  · rw [List.getElem?_append_left hlt] at hj
    exact (h j s hj).X fun i hi => List.getElem?_append_left (by omega)
  · rw [List.getElem?_append_right hge] at hj
    have hj0 : j - rows.length = 0 := by
      have := (List.getElem?_eq_some_iff.1 hj).1; simp at this; omega
    rw [hj0] at hj
    obtain rfl := Option.some.inj hj
    refine hr.X fun i hi => ?_
    show (xs ++ ys)[j * 3 + i]? = ys[0 + i]?
    rw [List.getElem?_append_right (by omega), hl]
    congr 1; omega
theorem irows_src {w : World} {b off : Nat} {rows : List IRow} (h : ∀ j r, rows[j]? = some r → IRowAt w b (off + j * 3) r) :
    ∃ xs : List Value, xs.length = rows.length * 3 ∧ (∀ j y, xs[j]? = some y → w.cell? ((⟨b, off, none⟩ : Addr).add j) = some y) ∧ (∀ y ∈ xs, y.oneCell' = true) ∧ (∀ y ∈ xs, noU y = true) ∧ IRows w (fun i => xs[i]?) rows := by
  obtain ⟨xs, h1, h2, h3, h4, h5⟩ := src_cells (w := w) (b := b) (off := off) (L := rows.length * 3) (fun i hi => by
    obtain ⟨A, c, g0, g1, g2, _⟩ := h (i / 3) _ (List.getElem?_eq_getElem (by omega))
    rcases (show i % 3 = 0 ∨ i % 3 = 1 ∨ i % 3 = 2 by omega) with e | e | e
    · exact ⟨_, by rw [show off + i = off + i / 3 * 3 by omega]; exact g0, rfl, rfl⟩
    · exact ⟨_, by rw [show off + i = off + i / 3 * 3 + 1 by omega]; exact g1, rfl, rfl⟩
    · exact ⟨_, by rw [show off + i = off + i / 3 * 3 + 2 by omega]; exact g2, rfl, rfl⟩)
  refine ⟨xs, h1, h3, h4, h5, fun j r hj => ?_⟩
  have hjl : j < rows.length := (List.getElem?_eq_some_iff.1 hj).1
  obtain ⟨A, c, g0, g1, g2, g3⟩ := h j r hj
  exact ⟨A, c, (h2 _ (by omega)).trans g0, (h2 _ (by omega)).trans g1, (h2 _ (by omega)).trans g2, g3⟩
theorem irows_view {w : World} {base : Nat} {v : Value} {rows : List IRow} {xs : List Value} (o : OwnX w base 52 3 v rows.length xs) (h : IRows w (fun i => xs[i]?) rows) :
    ∃ (A : Option Addr) (c : Nat), v = .slice A rows.length c ∧ rows.length ≤ c ∧ c ≤ 9223372036854775807 ∧ (0 < rows.length → ∃ b off, A = some ⟨b, off, none⟩ ∧ ∀ j r, rows[j]? = some r → IRowAt w b (off + j * 3) r) := by
  rcases Nat.eq_zero_or_pos rows.length with hm | hm
  · obtain ⟨A, c, e⟩ := o.shape
    refine ⟨A, c, e, by omega, ?_, fun h => by omega⟩
    rcases o.2 with ⟨e', _⟩ | ⟨g, cap, cur, e', _, _, _, h6, _⟩
    · rw [e] at e'; injection e' with _ _ e'; omega
    · rw [e] at e'; injection e' with _ _ e'
      unfold maxLen at h6; omega
  · obtain ⟨g, cap, e, _, hb, h3, h4, _, _, h8⟩ := o.cells hm
    refine ⟨_, cap, e, h3, h4, fun _ => ⟨g, 0, rfl, fun j r hj => ?_⟩⟩
    obtain ⟨A, c, g0, g1, g2, g3⟩ := h j r hj
    rw [Nat.zero_add]
    exact ⟨A, c, h8 _ _ g0, h8 _ _ g1, h8 _ _ g2, g3⟩

/-! rows of a problem of lp -/
def PRX (w : World) (X : Nat → Option Value) (off : Nat) (r : RL) : Prop :=
  ∃ A c x B d e y B' d' e', X off = some (.slice A r.coef.length c) ∧ X (off + 1) = some (.int .u8 (r.rel : Int)) ∧ X (off + 2) = some (.bool x) ∧ X (off + 3) = some (.slice B d e) ∧ X (off + 4) = some (.bool y) ∧ X (off + 5) = some (.slice B' d' e') ∧ r.rel ≤ 255 ∧
    RatsV w A r.coef.length c (fun j => r.coef.getD j 0) ∧ RatV w (.agg #[.bool x, .slice B d e, .bool y, .slice B' d' e']) r.right
def PRows (w : World) (X : Nat → Option Value) (rows : List RL) : Prop := ∀ j r, rows[j]? = some r → PRX w X (j * 6) r
theorem RatsV.fr {P : Nat → Prop} {w w' : World} {A : Option Addr} {n c : Nat} {f : Nat → Rat} (h : RatsV w A n c f) (k : Fr P w w') (hP : ∀ b n f, RowR w b n f → ¬ P b) : RatsV w' A n c f :=
  ⟨h.1, h.2.1, fun hn => by obtain ⟨b, e, hr⟩ := h.2.2 hn; exact ⟨b, e, hr.fr k (hP _ _ _ hr)⟩⟩
theorem PRX.fr {P : Nat → Prop} {w w' : World} {X : Nat → Option Value} {off : Nat} {r : RL} (h : PRX w X off r) (k : Fr P w w') (hP : ∀ b n f, RowR w b n f → ¬ P b) : PRX w' X off r := by
  obtain ⟨A, c, x, B, d, e, y, B', d', e', h0, h1, h2, h3, h4, h5, h6, h7, h8⟩ := h
  exact ⟨A, c, x, B, d, e, y, B', d', e', h0, h1, h2, h3, h4, h5, h6, h7.fr k hP, k.rat h8⟩
theorem PRX.ext {w w' : World} {X : Nat → Option Value} {off : Nat} {r : RL} (h : PRX w X off r) (k : Ext w w') : PRX w' X off r := h.fr (P := fun _ => False) (Fr.of k) (fun _ _ _ _ => id)
theorem PRX.X {w : World} {X Y : Nat → Option Value} {off off' : Nat} {r : RL} (h : PRX w X off r) (e : ∀ i, i < 6 → ∀ u, X (off + i) = some u → Y (off' + i) = some u) : PRX w Y off' r := by
  obtain ⟨A, c, x, B, d, e1, y, B', d', e', h0, h1, h2, h3, h4, h5, h6, h7, h8⟩ := h
  exact ⟨A, c, x, B, d, e1, y, B', d', e', e 0 (by omega) _ h0, e 1 (by omega) _ h1, e 2 (by omega) _ h2, e 3 (by omega) _ h3, e 4 (by omega) _ h4, e 5 (by omega) _ h5, h6, h7, h8⟩
theorem PRows.fr {P : Nat → Prop} {w w' : World} {X : Nat → Option Value} {rows : List RL} (h : PRows w X rows) (k : Fr P w w') (hP : ∀ b n f, RowR w b n f → ¬ P b) : PRows w' X rows := fun j r hj => (h j r hj).fr k hP
theorem PRows.ext {w w' : World} {X : Nat → Option Value} {rows : List RL} (h : PRows w X rows) (k : Ext w w') : PRows w' X rows := fun j r hj => (h j r hj).ext k
theorem PRows.push {w : World} {xs ys : List Value} {rows : List RL} {r : RL} (h : PRows w (fun i => xs[i]?) rows) (hl : xs.length = rows.length * 6) (hr : PRX w (fun i => ys[i]?) 0 r) : PRows w (fun i => (xs ++ ys)[i]?) (rows ++ [r]) := by
  intro j s hj
  rcases Nat.lt_or_ge j rows.length with hlt | hge
  · rw [List.getElem?_append_left hlt] at hj
    exact (h j s hj).X fun i hi u hu => (List.getElem?_append_left (by omega)).trans hu
  · rw [List.getElem?_append_right hge] at hj
    have hj0 : j - rows.length = 0 := by
      have := (List.getElem?_eq_some_iff.1 hj).1; simp at this; omega
    rw [hj0] at hj
    obtain rfl := Option.some.inj hj
    refine hr.X fun i hi u hu => ?_
    show (xs ++ ys)[j * 6 + i]? = some u
    rw [List.getElem?_append_right (by omega), hl, ← hu]
    show ys[j * 6 + i - rows.length * 6]? = ys[0 + i]?
    congr 1; omega
theorem prows_src {w : World} {b off : Nat} {rows : List RL} (h : PRows w (fun i => w.cell? ⟨b, off + i, none⟩) rows) :
    ∃ xs : List Value, xs.length = rows.length * 6 ∧ (∀ j y, xs[j]? = some y → w.cell? ((⟨b, off, none⟩ : Addr).add j) = some y) ∧ (∀ y ∈ xs, y.oneCell' = true) ∧ (∀ y ∈ xs, noU y = true) ∧ PRows w (fun i => xs[i]?) rows := by
  obtain ⟨xs, h1, h2, h3, h4, h5⟩ := src_cells (w := w) (b := b) (off := off) (L := rows.length * 6) (fun i hi => by
    obtain ⟨A, c, x, B, d, e, y, B', d', e', g0, g1, g2, g3, g4, g5, _⟩ := h (i / 6) _ (List.getElem?_eq_getElem (by omega))
    rcases (show i % 6 = 0 ∨ i % 6 = 1 ∨ i % 6 = 2 ∨ i % 6 = 3 ∨ i % 6 = 4 ∨ i % 6 = 5 by omega) with q | q | q | q | q | q
    · exact ⟨_, by rw [show off + i = off + i / 6 * 6 by omega]; exact g0, rfl, rfl⟩
    · exact ⟨_, by rw [show off + i = off + (i / 6 * 6 + 1) by omega]; exact g1, rfl, rfl⟩
    · exact ⟨_, by rw [show off + i = off + (i / 6 * 6 + 2) by omega]; exact g2, rfl, rfl⟩
    · exact ⟨_, by rw [show off + i = off + (i / 6 * 6 + 3) by omega]; exact g3, rfl, rfl⟩
    · exact ⟨_, by rw [show off + i = off + (i / 6 * 6 + 4) by omega]; exact g4, rfl, rfl⟩
    · exact ⟨_, by rw [show off + i = off + (i / 6 * 6 + 5) by omega]; exact g5, rfl, rfl⟩)
  refine ⟨xs, h1, h3, h4, h5, fun j r hj => ?_⟩
  have hjl : j < rows.length := (List.getElem?_eq_some_iff.1 hj).1
  exact (h j r hj).X fun i hi u hu => by rw [← hu]; exact h2 _ (by omega)
theorem prows_prob {w : World} {base : Nat} {v : Value} {obj : List Rat} {rows : List RL} {xs : List Value} {Ao : Option Addr} {co : Nat} (o : OwnX w base 62 6 v rows.length xs) (h : PRows w (fun i => xs[i]?) rows) (ho : RatsV w Ao obj.length co (fun j => obj.getD j 0)) :
    ProbV w (.agg #[.slice Ao obj.length co, v]) (⟨obj, rows⟩ : PL).toP := by
  obtain ⟨A, c, rfl⟩ := o.shape
  have hcap : rows.length ≤ c ∧ c ≤ 9223372036854775807 := by
    rcases o.2 with ⟨e', h0⟩ | ⟨g, cap, cur, e', _, _, h5, h6, _⟩
    · injection e' with _ _ e'; omega
    · injection e' with _ _ e'
      unfold maxLen at h6; omega
  refine ⟨Ao, co, A, c, rfl, ho, hcap.1, hcap.2, fun hm => ?_⟩
  obtain ⟨g, cap, e, _, hb, h3, h4, _, _, h8⟩ := o.cells hm
  injection e with e1 e2 e3
  refine ⟨g, e1, fun i hi => ?_⟩
  have hi' : i < rows.length := hi
  obtain ⟨A', c', x, B, d, e, y, B', d', e', g0, g1, g2, g3, g4, g5, h6, h7, h8'⟩ := h i rows[i] (List.getElem?_eq_getElem hi')
  have hrw : (⟨obj, rows⟩ : PL).rows.getD i RL.zero = rows[i] := by
    show rows.getD i RL.zero = rows[i]
    rw [List.getD_eq_getElem?_getD, List.getElem?_eq_getElem hi']; rfl
  refine ⟨A', c', x, B, d, e, y, B', d', e', ?_, ?_, h8 _ _ g2, h8 _ _ g3, h8 _ _ g4, h8 _ _ g5, ?_, ?_, ?_⟩
  · show _ = some (Value.slice A' ((⟨obj, rows⟩ : PL).rows.getD i RL.zero).coef.length c'); rw [hrw]; exact h8 _ _ g0
  · show _ = some (Value.int .u8 (((⟨obj, rows⟩ : PL).rows.getD i RL.zero).rel : Int)); rw [hrw]; exact h8 _ _ g1
  · show RatsV w A' ((⟨obj, rows⟩ : PL).rows.getD i RL.zero).coef.length c' (fun j => ((⟨obj, rows⟩ : PL).rows.getD i RL.zero).coef.getD j 0); rw [hrw]; exact h7
  · show ((⟨obj, rows⟩ : PL).rows.getD i RL.zero).rel ≤ 255; rw [hrw]; exact h6
  · show RatV w _ ((⟨obj, rows⟩ : PL).rows.getD i RL.zero).right; rw [hrw]; exact h8'
/-- the rows of a problem that Make has made -/
theorem MRows.prows {w : World} {base lo : Nat} {P : PL} {rA : Nat → Option Addr} {rc : Nat → Nat} {X : Nat → Option Value} (h : MRows w base lo P.rows.length P.toP rA rc X) : PRows w X P.rows := by
  intro i r hi
  have hil : i < P.rows.length := (List.getElem?_eq_some_iff.1 hi).1
  have hrw : P.rows.getD i RL.zero = r := by rw [List.getD_eq_getElem?_getD, hi]; rfl
  obtain ⟨h1, h2, h3, x, B, d, e, y, B', d', e', g2, g3, g4, g5, hr⟩ := h.row i hil
  have hc := (h.coef i hil).rats
  have h1' : X (i * 6) = some (.slice (rA i) (P.rows.getD i RL.zero).coef.length (rc i)) := h1
  have h2' : X (i * 6 + 1) = some (.int .u8 ((P.rows.getD i RL.zero).rel : Int)) := h2
  have h3' : (P.rows.getD i RL.zero).rel ≤ 255 := h3
  have hr' : RatV w (.agg #[.bool x, .slice B d e, .bool y, .slice B' d' e']) (P.rows.getD i RL.zero).right := hr
  have hc' : RatsV w (rA i) (P.rows.getD i RL.zero).coef.length (rc i) (fun j => (P.rows.getD i RL.zero).coef.getD j 0) := hc
  rw [hrw] at h1' h2' h3' hr' hc'
  exact ⟨rA i, rc i, x, B, d, e, y, B', d', e', h1', h2', g2, g3, g4, g5, h3', hc', hr'⟩
end Go.Proofs.Ythafabkjidifeaa.Lp
