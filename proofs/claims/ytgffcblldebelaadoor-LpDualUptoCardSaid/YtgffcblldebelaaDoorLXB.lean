/- A problem that Make has made, written in place. -/
import Derived.Test.YtgffcblldebelaaDoorLXA
set_option linter.unusedVariables false
set_option linter.unusedSimpArgs false
namespace Go.Proofs.YtgffcblldebelaaDoor.Lp
open Go.RowKit Go.Proofs.YtgffcblldebelaaDoor.Big Go.Proofs.YtgffcblldebelaaDoor.Rt

section
variable {w w' : World} {base : Nat} {v : Value} {p : Prob} {a : MA}
theorem MkV.br_ne (h : MkV w base v p a) (hm : 0 < p.m) {A : Option Addr} {n c : Nat} {f : Nat → Rat} (hA : RatsV w A n c f) : ¬ Blk A n a.br := fun hk => by
  obtain ⟨-, -, cs, h3, -⟩ := h.blk hm
  obtain ⟨b, e, hr⟩ := hA.2.2 hk.1
  rw [hk.2] at e
  injection e with e
  injection e with e
  subst e
  obtain ⟨cs', hcs⟩ := hr.cells
  exact row_ne h3 hcs (by decide) rfl
theorem RatsO.blk {A B : Option Addr} {n c m : Nat} {f : Nat → Rat} (h : RatsO w base A n c f) (k : Fr (Blk B m) w w') (hne : 0 < n → 0 < m → A ≠ B) : RatsO w' base A n c f :=
  ⟨h.1, h.2.1, fun hn => by
    obtain ⟨b, e, hr, hb⟩ := h.2.2 hn
    exact ⟨b, e, hr.fr k (fun hk => hne hn hk.1 (e.trans hk.2.symm)), hb⟩⟩
theorem RatsO.new {A : Option Addr} {n c : Nat} {f g : Nat → Rat} (h : RatsO w base A n c f) (hg : RatsV w' A n c g) : RatsO w' base A n c g :=
  ⟨h.1, h.2.1, fun hn => by
    obtain ⟨b, e, hr, hb⟩ := h.2.2 hn
    obtain ⟨b', e', hr'⟩ := hg.2.2 hn
    rw [e] at e'
    injection e' with e'
    injection e' with e'
    subst e'
    exact ⟨b, e, hr', hb⟩⟩
/-- the objective written -/
theorem MkV.objs (h : MkV w base v p a) {g : Nat → Rat} (k : Fr (Blk a.Ao p.n) w w') (hg : RatsV w' a.Ao p.n a.co g) : MkV w' base v { p with obj := g } a := by
  refine ⟨h.val, h.obj.new hg, h.cap, fun hm => ?_, ⟨fun i hi => ?_, fun i hi => ?_, h.rows.apart⟩, h.apart⟩
  · obtain ⟨h1, h2, cs, h3, h4⟩ := h.blk hm
    exact ⟨h1, h2, cs, k.row (h.br_ne hm h.obj.rats) h3, h4⟩
  · have hb := h.br_ne (Nat.lt_of_le_of_lt (Nat.zero_le _) hi) h.obj.rats
    obtain ⟨h1, h2, h3, x, B, d, e, y, B', d', e', g2, g3, g4, g5, hr⟩ := h.rows.row i hi
    exact ⟨k.cell hb h1, k.cell hb h2, h3, x, B, d, e, y, B', d', e', k.cell hb g2, k.cell hb g3, k.cell hb g4, k.cell hb g5, k.rat hr⟩
  · exact (h.rows.coef i hi).blk k (fun h1 h2 => h.apart i hi h1 h2)
/-- the coefficients of a row written -/
theorem MkV.coefs (h : MkV w base v p a) {g : Nat → Rat} {i : Nat} (hi : i < p.m) (k : Fr (Blk (a.rA i) (p.len i)) w w') (hg : RatsV w' (a.rA i) (p.len i) (a.rc i) g) : MkV w' base v { p with coef := fun r => if r = i then g else p.coef r } a := by
  have hb := h.br_ne (Nat.lt_of_le_of_lt (Nat.zero_le _) hi) (h.rows.coef i hi).rats
  refine ⟨h.val, h.obj.blk k (fun h1 h2 => (h.apart i hi h2 h1).symm), h.cap, fun hm => ?_, ⟨fun j hj => ?_, fun j hj => ?_, h.rows.apart⟩, h.apart⟩
  · obtain ⟨h1, h2, cs, h3, h4⟩ := h.blk hm
    exact ⟨h1, h2, cs, k.row hb h3, h4⟩
  · obtain ⟨h1, h2, h3, x, B, d, e, y, B', d', e', g2, g3, g4, g5, hr⟩ := h.rows.row j hj
    exact ⟨k.cell hb h1, k.cell hb h2, h3, x, B, d, e, y, B', d', e', k.cell hb g2, k.cell hb g3, k.cell hb g4, k.cell hb g5, k.rat hr⟩
  · show RatsO w' base (a.rA j) (p.len j) (a.rc j) (if j = i then g else p.coef j)
    by_cases e : j = i
    · subst e
      rw [if_pos rfl]
      exact (h.rows.coef j hj).new hg
    · rw [if_neg e]
      exact (h.rows.coef j hj).blk k (fun h1 h2 => h.rows.apart j hj i hi e h1 h2)
/-- the relation of a row written -/
theorem MkV.rels (h : MkV w base v p a) {i r : Nat} (hi : i < p.m) (hr : r ≤ 255) : MkV (w.setCell ⟨a.br, i * 6 + 1, none⟩ (.int .u8 (r : Int))) base v { p with rel := fun j => if j = i then r else p.rel j } a := by
  have hm : 0 < p.m := Nat.lt_of_le_of_lt (Nat.zero_le _) hi
  obtain ⟨h1, h2, cs, h3, h4⟩ := h.blk hm
  have k : Fr (fun k => k = a.br) w (w.setCell ⟨a.br, i * 6 + 1, none⟩ (.int .u8 (r : Int))) := (Fr.refl (fun k => k = a.br) w).set (p := ⟨a.br, i * 6 + 1, none⟩) rfl (fun z => by rw [(h.rows.row i hi).2.1]; intro e; cases e) _
  have hne : ∀ b n' f, RowR w b n' f → ¬ b = a.br := fun b n' f hb e => by
    obtain ⟨cs', hcs⟩ := hb.cells
    exact row_ne h3 hcs (by decide) e.symm
  have oth : ∀ j, j ≠ i * 6 + 1 → (w.setCell ⟨a.br, i * 6 + 1, none⟩ (.int .u8 (r : Int))).cell? ⟨a.br, j, none⟩ = w.cell? ⟨a.br, j, none⟩ := fun j hj => World.cell?_setCell_other _ _ _ _ (fun e => hj (by injection e with e1 e2 <;> omega))
  have up : ∀ {A n c f}, RatsO w base A n c f → RatsO (w.setCell ⟨a.br, i * 6 + 1, none⟩ (.int .u8 (r : Int))) base A n c f := fun {A n c f} h => ⟨h.1, h.2.1, fun hn => by obtain ⟨b, e, hr, hb⟩ := h.2.2 hn; exact ⟨b, e, hr.fr k (hne _ _ _ hr), hb⟩⟩
  have hself : (w.setCell ⟨a.br, i * 6 + 1, none⟩ (.int .u8 (r : Int))).heap[a.br]? = some (.cells (cs.setIfInBounds (i * 6 + 1) (.int .u8 (r : Int))) 48 (0, 0)) := by
    simp [World.setCell, Array.getElem?_modify, h3]
  refine ⟨h.val, up h.obj, h.cap, fun _ => ⟨h1, h2, _, hself, by simpa using h4⟩, ⟨fun j hj => ?_, fun j hj => up (h.rows.coef j hj), h.rows.apart⟩, h.apart⟩
  obtain ⟨g0, g1, q, x, B, d, e, y, B', d', e', g2, g3, g4, g5, hr'⟩ := h.rows.row j hj
  refine ⟨(oth _ (by omega)).trans g0, ?_, ?_, x, B, d, e, y, B', d', e', (oth _ (by omega)).trans g2, (oth _ (by omega)).trans g3, (oth _ (by omega)).trans g4, (oth _ (by omega)).trans g5, k.rat hr'⟩
  · show _ = some (Value.int .u8 ((if j = i then r else p.rel j : Nat) : Int))
    by_cases e : j = i
    · subst e
      rw [if_pos rfl]
      show (w.setCell ⟨a.br, j * 6 + 1, none⟩ (.int .u8 (r : Int))).cell? ⟨a.br, j * 6 + 1, none⟩ = _
      rw [cell_of_row _ a.br _ _ _ (0, 0) hself, Array.getElem?_setIfInBounds_self_of_lt (by omega)]
    · rw [if_neg e]
      exact (oth _ (by omega)).trans g1
  · show (if j = i then r else p.rel j) ≤ 255
    split
    · exact hr
    · exact q
theorem MkV.rightsF (h : MkV w base v p a) {i : Nat} (hi : i < p.m) (u0 u1 u2 u3 : Value) :
    Fr (fun k => k = a.br) w ((((w.setCell ⟨a.br, i * 6 + 2, none⟩ u0).setCell ⟨a.br, i * 6 + 3, none⟩ u1).setCell ⟨a.br, i * 6 + 4, none⟩ u2).setCell ⟨a.br, i * 6 + 5, none⟩ u3) := by
  obtain ⟨-, -, -, x0, B0, d0, e0, y0, B0', d0', e0', f2, f3, f4, f5, -⟩ := h.rows.row i hi
  have key : ∀ (W : World) (j j' : Nat) (u : Value), j ≠ j' → (W.setCell ⟨a.br, j, none⟩ u).cell? ⟨a.br, j', none⟩ = W.cell? ⟨a.br, j', none⟩ := fun W j j' u hj => World.cell?_setCell_other _ _ _ _ (fun e => hj (by injection e with e1 e2 <;> omega))
  refine Fr.set (Fr.set (Fr.set (Fr.set (Fr.refl (fun k => k = a.br) w) (p := ⟨a.br, i * 6 + 2, none⟩) rfl ?_ _) (p := ⟨a.br, i * 6 + 3, none⟩) rfl ?_ _) (p := ⟨a.br, i * 6 + 4, none⟩) rfl ?_ _) (p := ⟨a.br, i * 6 + 5, none⟩) rfl ?_ _
  · intro z; rw [f2]; intro h; cases h
  · intro z; rw [key _ _ _ _ (by omega), show w.cell? ⟨a.br, i * 6 + 3, none⟩ = _ from f3]; intro h; cases h
  · intro z; rw [key _ _ _ _ (by omega), key _ _ _ _ (by omega), show w.cell? ⟨a.br, i * 6 + 4, none⟩ = _ from f4]; intro h; cases h
  · intro z; rw [key _ _ _ _ (by omega), key _ _ _ _ (by omega), key _ _ _ _ (by omega), show w.cell? ⟨a.br, i * 6 + 5, none⟩ = _ from f5]; intro h; cases h
/-- the right side of a row written -/
theorem MkV.rights (h : MkV w base v p a) {i : Nat} (hi : i < p.m) {x y : Bool} {B B' : Option Addr} {d e d' e' : Nat} {q : Rat} (hq : RatV w (.agg #[.bool x, .slice B d e, .bool y, .slice B' d' e']) q) :
    MkV ((((w.setCell ⟨a.br, i * 6 + 2, none⟩ (.bool x)).setCell ⟨a.br, i * 6 + 2 + 1, none⟩ (.slice B d e)).setCell ⟨a.br, i * 6 + 2 + 2, none⟩ (.bool y)).setCell ⟨a.br, i * 6 + 2 + 3, none⟩ (.slice B' d' e')) base v { p with right := fun j => if j = i then q else p.right j } a := by
  have hm : 0 < p.m := Nat.lt_of_le_of_lt (Nat.zero_le _) hi
  obtain ⟨h1, h2, cs, h3, h4⟩ := h.blk hm
  obtain ⟨-, -, -, x0, B0, d0, e0, y0, B0', d0', e0', f2, f3, f4, f5, -⟩ := h.rows.row i hi
  have key : ∀ (W : World) (j j' : Nat) (u : Value), j ≠ j' → (W.setCell ⟨a.br, j, none⟩ u).cell? ⟨a.br, j', none⟩ = W.cell? ⟨a.br, j', none⟩ := fun W j j' u hj => World.cell?_setCell_other _ _ _ _ (fun e => hj (by injection e with e1 e2 <;> omega))
  have k : Fr (fun k => k = a.br) w ((((w.setCell ⟨a.br, i * 6 + 2, none⟩ (.bool x)).setCell ⟨a.br, i * 6 + 2 + 1, none⟩ (.slice B d e)).setCell ⟨a.br, i * 6 + 2 + 2, none⟩ (.bool y)).setCell ⟨a.br, i * 6 + 2 + 3, none⟩ (.slice B' d' e')) := by
    refine Fr.set (Fr.set (Fr.set (Fr.set (Fr.refl (fun k => k = a.br) w) (p := ⟨a.br, i * 6 + 2, none⟩) rfl ?_ _) (p := ⟨a.br, i * 6 + 2 + 1, none⟩) rfl ?_ _) (p := ⟨a.br, i * 6 + 2 + 2, none⟩) rfl ?_ _) (p := ⟨a.br, i * 6 + 2 + 3, none⟩) rfl ?_ _
    · intro z; rw [f2]; intro h; cases h
    · intro z; rw [key _ _ _ _ (by omega), show w.cell? ⟨a.br, i * 6 + 2 + 1, none⟩ = _ from f3]; intro h; cases h
    · intro z; rw [key _ _ _ _ (by omega), key _ _ _ _ (by omega), show w.cell? ⟨a.br, i * 6 + 2 + 2, none⟩ = _ from f4]; intro h; cases h
    · intro z; rw [key _ _ _ _ (by omega), key _ _ _ _ (by omega), key _ _ _ _ (by omega), show w.cell? ⟨a.br, i * 6 + 2 + 3, none⟩ = _ from f5]; intro h; cases h
  have hne : ∀ b n' f, RowR w b n' f → ¬ b = a.br := fun b n' f hb e => by
    obtain ⟨cs', hcs⟩ := hb.cells
    exact row_ne h3 hcs (by decide) e.symm
  have up : ∀ {A n c f}, RatsO w base A n c f → RatsO _ base A n c f := fun {A n c f} h => ⟨h.1, h.2.1, fun hn => by obtain ⟨b, e, hr, hb⟩ := h.2.2 hn; exact ⟨b, e, hr.fr k (hne _ _ _ hr), hb⟩⟩
  have hself : ((((w.setCell ⟨a.br, i * 6 + 2, none⟩ (.bool x)).setCell ⟨a.br, i * 6 + 2 + 1, none⟩ (.slice B d e)).setCell ⟨a.br, i * 6 + 2 + 2, none⟩ (.bool y)).setCell ⟨a.br, i * 6 + 2 + 3, none⟩ (.slice B' d' e')).heap[a.br]? = some (.cells ((((cs.setIfInBounds (i * 6 + 2) (.bool x)).setIfInBounds (i * 6 + 2 + 1) (.slice B d e)).setIfInBounds (i * 6 + 2 + 2) (.bool y)).setIfInBounds (i * 6 + 2 + 3) (.slice B' d' e')) 48 (0, 0)) := by
    simp [World.setCell, Array.getElem?_modify, h3]
  have oth : ∀ j, (j < i * 6 + 2 ∨ i * 6 + 5 < j) → ((((w.setCell ⟨a.br, i * 6 + 2, none⟩ (.bool x)).setCell ⟨a.br, i * 6 + 2 + 1, none⟩ (.slice B d e)).setCell ⟨a.br, i * 6 + 2 + 2, none⟩ (.bool y)).setCell ⟨a.br, i * 6 + 2 + 3, none⟩ (.slice B' d' e')).cell? ⟨a.br, j, none⟩ = w.cell? ⟨a.br, j, none⟩ := fun j hj => by
    rw [key _ _ _ _ (by omega), key _ _ _ _ (by omega), key _ _ _ _ (by omega), key _ _ _ _ (by omega)]
  refine ⟨h.val, up h.obj, h.cap, fun _ => ⟨h1, h2, _, hself, by simpa using h4⟩, ⟨fun j hj => ?_, fun j hj => up (h.rows.coef j hj), h.rows.apart⟩, h.apart⟩
  obtain ⟨g0, g1, g6, x1, B1, d1, e1, y1, B1', d1', e1', g2, g3, g4, g5, hr'⟩ := h.rows.row j hj
  by_cases ej : j = i
  · subst ej
    refine ⟨(oth _ (by omega)).trans g0, (oth _ (by omega)).trans g1, g6, x, B, d, e, y, B', d', e', ?_, ?_, ?_, ?_, ?_⟩
    · show World.cell? _ ⟨a.br, j * 6 + 2, none⟩ = _
      rw [cell_of_row _ a.br _ _ _ (0, 0) hself, Array.getElem?_setIfInBounds_ne (by omega), Array.getElem?_setIfInBounds_ne (by omega), Array.getElem?_setIfInBounds_ne (by omega), Array.getElem?_setIfInBounds_self_of_lt (by omega)]
    · show World.cell? _ ⟨a.br, j * 6 + 2 + 1, none⟩ = _
      rw [cell_of_row _ a.br _ _ _ (0, 0) hself, Array.getElem?_setIfInBounds_ne (by omega), Array.getElem?_setIfInBounds_ne (by omega), Array.getElem?_setIfInBounds_self_of_lt (by simp; omega)]
    · show World.cell? _ ⟨a.br, j * 6 + 2 + 2, none⟩ = _
      rw [cell_of_row _ a.br _ _ _ (0, 0) hself, Array.getElem?_setIfInBounds_ne (by omega), Array.getElem?_setIfInBounds_self_of_lt (by simp; omega)]
    · show World.cell? _ ⟨a.br, j * 6 + 2 + 3, none⟩ = _
      rw [cell_of_row _ a.br _ _ _ (0, 0) hself, Array.getElem?_setIfInBounds_self_of_lt (by simp; omega)]
    · show RatV _ _ (if j = j then q else p.right j)
      rw [if_pos rfl]
      exact k.rat hq
  · refine ⟨(oth _ (by omega)).trans g0, (oth _ (by omega)).trans g1, g6, x1, B1, d1, e1, y1, B1', d1', e1', (oth _ (by omega)).trans g2, (oth _ (by omega)).trans g3, (oth _ (by omega)).trans g4, (oth _ (by omega)).trans g5, ?_⟩
    show RatV _ _ (if j = i then q else p.right j)
    rw [if_neg ej]
    exact k.rat hr'
end
end Go.Proofs.YtgffcblldebelaaDoor.Lp
