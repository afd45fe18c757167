/- Walk: the closure of LpPermutes that swaps two places of a list; two rows of a made problem exchanged. -/
import Derived.Test.YtgffcblldebelaaDoorLXB
import Derived.Test.YtgffcblldebelaaDoorLXD
import Derived.BigRegion
set_option linter.unusedVariables false
set_option linter.unusedSimpArgs false
namespace Go.Proofs.YtgffcblldebelaaDoor.Lp
open Go.RowKit Go.Proofs.YtgffcblldebelaaDoor.Big Go.Proofs.YtgffcblldebelaaDoor.Rt

/-- six cells written -/
def set6 (w : World) (b o : Nat) (v0 v1 v2 v3 v4 v5 : Value) : World :=
  (((((w.setCell ⟨b, o, none⟩ v0).setCell ⟨b, o + 1, none⟩ v1).setCell ⟨b, o + 2, none⟩ v2).setCell ⟨b, o + 3, none⟩ v3).setCell ⟨b, o + 4, none⟩ v4).setCell ⟨b, o + 5, none⟩ v5
section
variable {w w' : World} {b o : Nat} {v0 v1 v2 v3 v4 v5 : Value}
theorem set6_cells {cs : Array Value} {E : TypeId} (h : w.heap[b]? = some (.cells cs E (0, 0))) (ho : o + 6 ≤ cs.size) :
    ∃ cs' : Array Value, (set6 w b o v0 v1 v2 v3 v4 v5).heap[b]? = some (.cells cs' E (0, 0)) ∧ cs'.size = cs.size ∧ (cs'[o]? = some v0 ∧ cs'[o + 1]? = some v1 ∧ cs'[o + 2]? = some v2 ∧ cs'[o + 3]? = some v3 ∧ cs'[o + 4]? = some v4 ∧ cs'[o + 5]? = some v5) ∧ ∀ j, (j < o ∨ o + 6 ≤ j) → cs'[j]? = cs[j]? := by
  refine ⟨(((((cs.setIfInBounds o v0).setIfInBounds (o + 1) v1).setIfInBounds (o + 2) v2).setIfInBounds (o + 3) v3).setIfInBounds (o + 4) v4).setIfInBounds (o + 5) v5, ?_, by simp, ⟨?_, ?_, ?_, ?_, ?_, ?_⟩, fun j hj => ?_⟩
  · simp [set6, World.setCell, Array.getElem?_modify, h]
  · rw [Array.getElem?_setIfInBounds_ne (by omega), Array.getElem?_setIfInBounds_ne (by omega), Array.getElem?_setIfInBounds_ne (by omega), Array.getElem?_setIfInBounds_ne (by omega), Array.getElem?_setIfInBounds_ne (by omega), Array.getElem?_setIfInBounds_self_of_lt (by omega)]
  · rw [Array.getElem?_setIfInBounds_ne (by omega), Array.getElem?_setIfInBounds_ne (by omega), Array.getElem?_setIfInBounds_ne (by omega), Array.getElem?_setIfInBounds_ne (by omega), Array.getElem?_setIfInBounds_self_of_lt (by simp; omega)]
  · rw [Array.getElem?_setIfInBounds_ne (by omega), Array.getElem?_setIfInBounds_ne (by omega), Array.getElem?_setIfInBounds_ne (by omega), Array.getElem?_setIfInBounds_self_of_lt (by simp; omega)]
  · rw [Array.getElem?_setIfInBounds_ne (by omega), Array.getElem?_setIfInBounds_ne (by omega), Array.getElem?_setIfInBounds_self_of_lt (by simp; omega)]
  · rw [Array.getElem?_setIfInBounds_ne (by omega), Array.getElem?_setIfInBounds_self_of_lt (by simp; omega)]
  · rw [Array.getElem?_setIfInBounds_self_of_lt (by simp; omega)]
  · rw [Array.getElem?_setIfInBounds_ne (by omega), Array.getElem?_setIfInBounds_ne (by omega), Array.getElem?_setIfInBounds_ne (by omega), Array.getElem?_setIfInBounds_ne (by omega), Array.getElem?_setIfInBounds_ne (by omega), Array.getElem?_setIfInBounds_ne (by omega)]
theorem set6_fr (h0 : ∀ z, w.cell? ⟨b, o, none⟩ ≠ some (.int .u32 z)) (h1 : ∀ z, w.cell? ⟨b, o + 1, none⟩ ≠ some (.int .u32 z)) (h2 : ∀ z, w.cell? ⟨b, o + 2, none⟩ ≠ some (.int .u32 z))
    (h3 : ∀ z, w.cell? ⟨b, o + 3, none⟩ ≠ some (.int .u32 z)) (h4 : ∀ z, w.cell? ⟨b, o + 4, none⟩ ≠ some (.int .u32 z)) (h5 : ∀ z, w.cell? ⟨b, o + 5, none⟩ ≠ some (.int .u32 z)) : Fr (fun k => k = b) w (set6 w b o v0 v1 v2 v3 v4 v5) := by
  have key : ∀ (W : World) (i i' : Nat) (u : Value), i ≠ i' → (W.setCell ⟨b, i, none⟩ u).cell? ⟨b, i', none⟩ = W.cell? ⟨b, i', none⟩ := fun W i i' u hne => World.cell?_setCell_other _ _ _ _ (fun e => hne (by injection e))
  unfold set6
  refine Fr.set (Fr.set (Fr.set (Fr.set (Fr.set (Fr.set (Fr.refl (fun k => k = b) w) (p := ⟨b, o, none⟩) rfl h0 _) (p := ⟨b, o + 1, none⟩) rfl ?_ _) (p := ⟨b, o + 2, none⟩) rfl ?_ _) (p := ⟨b, o + 3, none⟩) rfl ?_ _) (p := ⟨b, o + 4, none⟩) rfl ?_ _) (p := ⟨b, o + 5, none⟩) rfl ?_ _
  · intro z; rw [key _ _ _ _ (by omega)]; exact h1 z
  · intro z; rw [key _ _ _ _ (by omega), key _ _ _ _ (by omega)]; exact h2 z
  · intro z; rw [key _ _ _ _ (by omega), key _ _ _ _ (by omega), key _ _ _ _ (by omega)]; exact h3 z
  · intro z; rw [key _ _ _ _ (by omega), key _ _ _ _ (by omega), key _ _ _ _ (by omega), key _ _ _ _ (by omega)]; exact h4 z
  · intro z; rw [key _ _ _ _ (by omega), key _ _ _ _ (by omega), key _ _ _ _ (by omega), key _ _ _ _ (by omega), key _ _ _ _ (by omega)]; exact h5 z
end
def MA.perm (a : MA) (s : Nat → Nat) : MA := { a with rA := fun i => a.rA (s i), rc := fun i => a.rc (s i) }
theorem MkV.perm {w w' : World} {base : Nat} {v : Value} {p : Prob} {a : MA} (h : MkV w base v p a) (hm : 0 < p.m) (s : Nat → Nat) (hs : ∀ i, i < p.m → s i < p.m) (hinj : ∀ i j, i < p.m → j < p.m → s i = s j → i = j) (k : Fr (fun k => k = a.br) w w')
    (hb : ∃ cs, w'.heap[a.br]? = some (.cells cs 48 (0, 0)) ∧ p.m * 6 ≤ cs.size) (hc : ∀ i, i < p.m → ∀ d, d < 6 → w'.cell? ⟨a.br, i * 6 + d, none⟩ = w.cell? ⟨a.br, s i * 6 + d, none⟩) : MkV w' base v (p.perm s) (a.perm s) := by
  obtain ⟨h1, h2, cs, h3, h4⟩ := h.blk hm
  have hne : ∀ b n' f, RowR w b n' f → ¬ b = a.br := fun b n' f hb e => by
    obtain ⟨cs', hcs⟩ := hb.cells
    exact row_ne h3 hcs (by decide) e.symm
  have up : ∀ {A n c f}, RatsO w base A n c f → RatsO w' base A n c f := fun {A n c f} h => ⟨h.1, h.2.1, fun hn => by obtain ⟨b, e, hr, hb⟩ := h.2.2 hn; exact ⟨b, e, hr.fr k (hne _ _ _ hr), hb⟩⟩
  refine ⟨h.val, up h.obj, h.cap, fun _ => ⟨h1, h2, hb⟩, ⟨fun i hi => ?_, fun i hi => up (h.rows.coef (s i) (hs i hi)), fun i hi j hj hij h0 h0' => h.rows.apart (s i) (hs i hi) (s j) (hs j hj) (fun e => hij (hinj i j hi hj e)) h0 h0'⟩, fun i hi => h.apart (s i) (hs i hi)⟩
  obtain ⟨g0, g1, g6, x1, B1, d1, e1, y1, B1', d1', e1', g2, g3, g4, g5, hr'⟩ := h.rows.row (s i) (hs i hi)
  have hc' := hc i hi
  exact ⟨(hc' 0 (by omega)).trans g0, (hc' 1 (by omega)).trans g1, g6, x1, B1, d1, e1, y1, B1', d1', e1', (hc' 2 (by omega)).trans g2, (hc' 3 (by omega)).trans g3, (hc' 4 (by omega)).trans g4, (hc' 5 (by omega)).trans g5, k.rat hr'⟩
/-- two rows exchanged -/
theorem MkV.swap {w : World} {base : Nat} {v : Value} {p : Prob} {a : MA} (h : MkV w base v p a) {i k : Nat} (hi : i < p.m) (hk : k < p.m) {v0 v1 v2 v3 v4 v5 u0 u1 u2 u3 u4 u5 : Value}
    (c0 : w.cell? ⟨a.br, i * 6, none⟩ = some v0) (c1 : w.cell? ⟨a.br, i * 6 + 1, none⟩ = some v1) (c2 : w.cell? ⟨a.br, i * 6 + 2, none⟩ = some v2) (c3 : w.cell? ⟨a.br, i * 6 + 3, none⟩ = some v3) (c4 : w.cell? ⟨a.br, i * 6 + 4, none⟩ = some v4) (c5 : w.cell? ⟨a.br, i * 6 + 5, none⟩ = some v5)
    (d0 : w.cell? ⟨a.br, k * 6, none⟩ = some u0) (d1 : w.cell? ⟨a.br, k * 6 + 1, none⟩ = some u1) (d2 : w.cell? ⟨a.br, k * 6 + 2, none⟩ = some u2) (d3 : w.cell? ⟨a.br, k * 6 + 3, none⟩ = some u3) (d4 : w.cell? ⟨a.br, k * 6 + 4, none⟩ = some u4) (d5 : w.cell? ⟨a.br, k * 6 + 5, none⟩ = some u5) :
    MkV (set6 (set6 w a.br (i * 6) u0 u1 u2 u3 u4 u5) a.br (k * 6) v0 v1 v2 v3 v4 v5) base v (p.perm (tr i k)) (a.perm (tr i k)) ∧ Fr (fun k => k = a.br) w (set6 (set6 w a.br (i * 6) u0 u1 u2 u3 u4 u5) a.br (k * 6) v0 v1 v2 v3 v4 v5) := by
  have hm : 0 < p.m := Nat.lt_of_le_of_lt (Nat.zero_le _) hi
  obtain ⟨-, -, cs, h3, h4⟩ := h.blk hm
  obtain ⟨cs1, s1, s2, s3, s4⟩ := set6_cells (v0 := u0) (v1 := u1) (v2 := u2) (v3 := u3) (v4 := u4) (v5 := u5) h3 (show i * 6 + 6 ≤ cs.size by omega)
  obtain ⟨cs2, t1, t2, t3, t4⟩ := set6_cells (v0 := v0) (v1 := v1) (v2 := v2) (v3 := v3) (v4 := v4) (v5 := v5) s1 (show k * 6 + 6 ≤ cs1.size by omega)
  have nu : ∀ j, j < p.m → ∀ d, d < 6 → ∀ z, w.cell? ⟨a.br, j * 6 + d, none⟩ ≠ some (.int .u32 z) := by
    intro j hj d hd z
    obtain ⟨g0, g1, -, _, _, _, _, _, _, _, _, g2, g3, g4, g5, -⟩ := h.rows.row j hj
    rcases (show d = 0 ∨ d = 1 ∨ d = 2 ∨ d = 3 ∨ d = 4 ∨ d = 5 by omega) with rfl | rfl | rfl | rfl | rfl | rfl
    · rw [show w.cell? ⟨a.br, j * 6 + 0, none⟩ = _ from g0]; intro e; cases e
    · rw [show w.cell? ⟨a.br, j * 6 + 1, none⟩ = _ from g1]; intro e; cases e
    · rw [show w.cell? ⟨a.br, j * 6 + 2, none⟩ = _ from g2]; intro e; cases e
    · rw [show w.cell? ⟨a.br, j * 6 + 3, none⟩ = _ from g3]; intro e; cases e
    · rw [show w.cell? ⟨a.br, j * 6 + 4, none⟩ = _ from g4]; intro e; cases e
    · rw [show w.cell? ⟨a.br, j * 6 + 5, none⟩ = _ from g5]; intro e; cases e
  have k1 : Fr (fun k => k = a.br) w (set6 w a.br (i * 6) u0 u1 u2 u3 u4 u5) := set6_fr (nu i hi 0 (by omega)) (nu i hi 1 (by omega)) (nu i hi 2 (by omega)) (nu i hi 3 (by omega)) (nu i hi 4 (by omega)) (nu i hi 5 (by omega))
  have cw : ∀ j, w.cell? ⟨a.br, j, none⟩ = cs[j]? := fun j => cell_of_row w a.br j cs _ (0, 0) h3
  have c1' : ∀ j, (set6 w a.br (i * 6) u0 u1 u2 u3 u4 u5).cell? ⟨a.br, j, none⟩ = cs1[j]? := fun j => cell_of_row _ a.br j cs1 _ (0, 0) s1
  have c2' : ∀ j, (set6 (set6 w a.br (i * 6) u0 u1 u2 u3 u4 u5) a.br (k * 6) v0 v1 v2 v3 v4 v5).cell? ⟨a.br, j, none⟩ = cs2[j]? := fun j => cell_of_row _ a.br j cs2 _ (0, 0) t1
  rw [cw] at c0 c1 c2 c3 c4 c5 d0 d1 d2 d3 d4 d5
  have nu1 : ∀ d, d < 6 → ∀ z, (set6 w a.br (i * 6) u0 u1 u2 u3 u4 u5).cell? ⟨a.br, k * 6 + d, none⟩ ≠ some (.int .u32 z) := by
    intro d hd z
    by_cases e : k = i
    · subst e
      have hn := nu k hk d hd z
      rw [cw] at hn
      rw [c1']
      rcases (show d = 0 ∨ d = 1 ∨ d = 2 ∨ d = 3 ∨ d = 4 ∨ d = 5 by omega) with rfl | rfl | rfl | rfl | rfl | rfl
      · rw [show cs1[k * 6 + 0]? = _ from s3.1]; rwa [show cs[k * 6 + 0]? = _ from d0] at hn
      · rw [s3.2.1]; rwa [d1] at hn
      · rw [s3.2.2.1]; rwa [d2] at hn
      · rw [s3.2.2.2.1]; rwa [d3] at hn
      · rw [s3.2.2.2.2.1]; rwa [d4] at hn
      · rw [s3.2.2.2.2.2]; rwa [d5] at hn
    · rw [c1', s4 _ (by omega), ← cw]
      exact nu k hk d hd z
  have k2 := k1.trans (set6_fr (v0 := v0) (v1 := v1) (v2 := v2) (v3 := v3) (v4 := v4) (v5 := v5) (nu1 0 (by omega)) (nu1 1 (by omega)) (nu1 2 (by omega)) (nu1 3 (by omega)) (nu1 4 (by omega)) (nu1 5 (by omega)))
  refine ⟨h.perm hm (tr i k) (fun j hj => tr_lt hi hk hj) (fun j j' hj hj' e => by rw [← tr_tr i k j, e, tr_tr]) k2 ⟨cs2, t1, by omega⟩ (fun j hj d hd => ?_), k2⟩
  rw [c2', cw]
  unfold tr
  by_cases e1 : j = i
  · rw [if_pos e1]
    by_cases e2 : j = k
    · subst e2
      subst e1
      rcases (show d = 0 ∨ d = 1 ∨ d = 2 ∨ d = 3 ∨ d = 4 ∨ d = 5 by omega) with rfl | rfl | rfl | rfl | rfl | rfl
      · exact t3.1.trans c0.symm
      · exact t3.2.1.trans c1.symm
      · exact t3.2.2.1.trans c2.symm
      · exact t3.2.2.2.1.trans c3.symm
      · exact t3.2.2.2.2.1.trans c4.symm
      · exact t3.2.2.2.2.2.trans c5.symm
    · subst e1
      rw [t4 _ (by omega)]
      rcases (show d = 0 ∨ d = 1 ∨ d = 2 ∨ d = 3 ∨ d = 4 ∨ d = 5 by omega) with rfl | rfl | rfl | rfl | rfl | rfl
      · exact s3.1.trans d0.symm
      · exact s3.2.1.trans d1.symm
      · exact s3.2.2.1.trans d2.symm
      · exact s3.2.2.2.1.trans d3.symm
      · exact s3.2.2.2.2.1.trans d4.symm
      · exact s3.2.2.2.2.2.trans d5.symm
  · rw [if_neg e1]
    by_cases e2 : j = k
    · rw [if_pos e2]
      subst e2
      rcases (show d = 0 ∨ d = 1 ∨ d = 2 ∨ d = 3 ∨ d = 4 ∨ d = 5 by omega) with rfl | rfl | rfl | rfl | rfl | rfl
      · exact t3.1.trans c0.symm
      · exact t3.2.1.trans c1.symm
      · exact t3.2.2.1.trans c2.symm
      · exact t3.2.2.2.1.trans c3.symm
      · exact t3.2.2.2.2.1.trans c4.symm
      · exact t3.2.2.2.2.2.trans c5.symm
    · rw [if_neg e2, t4 _ (by omega), s4 _ (by omega)]

/-- between the two stores -/
theorem MkV.mid {w : World} {base : Nat} {v : Value} {p : Prob} {a : MA} (h : MkV w base v p a) {i k : Nat} (hi : i < p.m) (hk : k < p.m) {u0 u1 u2 u3 u4 u5 : Value}
    (d0 : w.cell? ⟨a.br, k * 6, none⟩ = some u0) (d1 : w.cell? ⟨a.br, k * 6 + 1, none⟩ = some u1) (d2 : w.cell? ⟨a.br, k * 6 + 2, none⟩ = some u2) (d3 : w.cell? ⟨a.br, k * 6 + 3, none⟩ = some u3) (d4 : w.cell? ⟨a.br, k * 6 + 4, none⟩ = some u4) (d5 : w.cell? ⟨a.br, k * 6 + 5, none⟩ = some u5) :
    ((set6 w a.br (i * 6) u0 u1 u2 u3 u4 u5).cell? ⟨a.br, k * 6, none⟩ = some u0 ∧ (set6 w a.br (i * 6) u0 u1 u2 u3 u4 u5).cell? ⟨a.br, k * 6 + 1, none⟩ = some u1 ∧ (set6 w a.br (i * 6) u0 u1 u2 u3 u4 u5).cell? ⟨a.br, k * 6 + 2, none⟩ = some u2 ∧
      (set6 w a.br (i * 6) u0 u1 u2 u3 u4 u5).cell? ⟨a.br, k * 6 + 3, none⟩ = some u3 ∧ (set6 w a.br (i * 6) u0 u1 u2 u3 u4 u5).cell? ⟨a.br, k * 6 + 4, none⟩ = some u4 ∧ (set6 w a.br (i * 6) u0 u1 u2 u3 u4 u5).cell? ⟨a.br, k * 6 + 5, none⟩ = some u5) ∧
    (∀ j, (set6 w a.br (i * 6) u0 u1 u2 u3 u4 u5).frozen? ⟨a.br, j, none⟩ = false) ∧ ∀ j, w.frozen? ⟨a.br, j, none⟩ = false := by
  obtain ⟨-, -, cs, h3, h4⟩ := h.blk (Nat.lt_of_le_of_lt (Nat.zero_le _) hi)
  obtain ⟨cs1, s1, s2, s3, s4⟩ := set6_cells (v0 := u0) (v1 := u1) (v2 := u2) (v3 := u3) (v4 := u4) (v5 := u5) h3 (show i * 6 + 6 ≤ cs.size by omega)
  have cw : ∀ j, w.cell? ⟨a.br, j, none⟩ = cs[j]? := fun j => cell_of_row w a.br j cs _ (0, 0) h3
  have c1' : ∀ j, (set6 w a.br (i * 6) u0 u1 u2 u3 u4 u5).cell? ⟨a.br, j, none⟩ = cs1[j]? := fun j => cell_of_row _ a.br j cs1 _ (0, 0) s1
  rw [cw] at d0 d1 d2 d3 d4 d5
  refine ⟨?_, fun j => by simp [World.frozen?, s1], fun j => by simp [World.frozen?, h3]⟩
  rw [c1', c1', c1', c1', c1', c1']
  by_cases e : i = k
  · subst e; exact s3
  · rw [s4 _ (by omega), s4 _ (by omega), s4 _ (by omega), s4 _ (by omega), s4 _ (by omega), s4 _ (by omega)]
    exact ⟨d0, d1, d2, d3, d4, d5⟩

/-- two numbers of a row exchanged -/
theorem RowR.swap {w : World} {b n : Nat} {f : Nat → Rat} (h : RowR w b n f) {i k : Nat} (hi : i < n) (hk : k < n) {x x' y y' : Bool} {A A' B B' : Option Addr} {d e d' e' m c m' c' : Nat}
    (hq : RatV w (.agg #[.bool x, .slice A d e, .bool x', .slice A' d' e']) (f i)) (hr : RatV w (.agg #[.bool y, .slice B m c, .bool y', .slice B' m' c']) (f k)) :
    RowR ((((((((w.setCell ⟨b, i * 4, none⟩ (.bool y)).setCell ⟨b, i * 4 + 1, none⟩ (.slice B m c)).setCell ⟨b, i * 4 + 2, none⟩ (.bool y')).setCell ⟨b, i * 4 + 3, none⟩ (.slice B' m' c')).setCell ⟨b, k * 4, none⟩ (.bool x)).setCell ⟨b, k * 4 + 1, none⟩ (.slice A d e)).setCell ⟨b, k * 4 + 2, none⟩ (.bool x')).setCell ⟨b, k * 4 + 3, none⟩ (.slice A' d' e')) b n (fun j => f (tr i k j)) ∧
    Fr (fun k => k = b) w ((((((((w.setCell ⟨b, i * 4, none⟩ (.bool y)).setCell ⟨b, i * 4 + 1, none⟩ (.slice B m c)).setCell ⟨b, i * 4 + 2, none⟩ (.bool y')).setCell ⟨b, i * 4 + 3, none⟩ (.slice B' m' c')).setCell ⟨b, k * 4, none⟩ (.bool x)).setCell ⟨b, k * 4 + 1, none⟩ (.slice A d e)).setCell ⟨b, k * 4 + 2, none⟩ (.bool x')).setCell ⟨b, k * 4 + 3, none⟩ (.slice A' d' e')) := by
  obtain ⟨s1, s2⟩ := h.set hi hr
  obtain ⟨s3, s4⟩ := s1.set hk (s2.rat hq)
  refine ⟨s3.congr fun j _ => ?_, s2.trans s4⟩
  show (if j = k then f i else if j = i then f k else f j) = f (tr i k j)
  unfold tr
  by_cases e1 : j = k
  · rw [if_pos e1]
    by_cases e2 : j = i
    · rw [if_pos e2, ← e1, e2]
    · rw [if_neg e2, if_pos e1]
  · rw [if_neg e1]
    by_cases e2 : j = i
    · rw [if_pos e2, if_pos e2]
    · rw [if_neg e2, if_neg e2, if_neg e1]

set_option maxHeartbeats 4000000 in
set_option maxRecDepth 100000 in
theorem swap_b (A : Option Addr) (n c : Nat) (f : Nat → Rat) (ba bb : Nat) (ka kb : Int) (i k : Nat) (w : World) (h : RatsV w A n c f) (hA : w.cell? ⟨ba, 0, none⟩ = some (.int .u8 ka)) (hB : w.cell? ⟨bb, 0, none⟩ = some (.int .u8 kb))
    (h0 : 0 ≤ ka ∧ ka ≤ 255) (h1 : 0 ≤ kb ∧ kb ≤ 255) (hi : ka % (n : Int) = i) (hk : kb % (n : Int) = k) (hn : 0 < n) (hn2 : n ≤ 1000000) :
    Calls Tryd.prog 30 #[.slice A n c, .pointer (some ⟨ba, 0, none⟩), .pointer (some ⟨bb, 0, none⟩)] w (ScPost w A n c (fun j => f (tr i k j))) := by
  have hin : i < n := by have := Int.emod_lt_of_pos ka (show (0 : Int) < n by omega); omega
  have hkn : k < n := by have := Int.emod_lt_of_pos kb (show (0 : Int) < n by omega); omega
  have hc1 := h.1
  have hc2 := h.2.1
  obtain ⟨b, rfl, hR⟩ := h.2.2 hn
  go_enter Tryd.func30, Tryd.ntmps30
  go_wp2_with fail
  go_quiet (fail)
  rw [hi, hk]
  generalize hWW : World.drewN w _ = W
  have hE : Ext w W := by rw [← hWW]; exact (Ext.refl w).drewN _
  clear hWW hA hB hi hk h
  have hR := hR.ext hE
  obtain ⟨x1, A1, m1, c1, y1, B1, n1, d1, e0, e1, e2, e3, hr1⟩ := hR.at hin
  obtain ⟨x2, A2, m2, c2, y2, B2, n2, d2, g0, g1, g2, g3, hr2⟩ := hR.at hkn
  obtain ⟨s1, s2⟩ := hR.set hin hr2
  obtain ⟨x3, A3, m3, c3, y3, B3, n3, d3, k0, k1, k2, k3, hr3⟩ := s1.at hkn
  have f0 := hR.frozen (i * 4)
  have f1 := hR.frozen (i * 4 + 1)
  have f2 := hR.frozen (i * 4 + 2)
  have f3 := hR.frozen (i * 4 + 3)
  have z0 := s1.frozen (k * 4)
  have z1 := s1.frozen (k * 4 + 1)
  have z2 := s1.frozen (k * 4 + 2)
  have z3 := s1.frozen (k * 4 + 3)
  obtain ⟨t1, t2⟩ := hR.swap hin hkn hr1 hr2
  have i1 : (0 : Int) ≤ (i : Int) := by omega
  have i2 : (i : Int) < (n : Int) := by omega
  have i3 : (0 : Int) ≤ (k : Int) := by omega
  have i4 : (k : Int) < (n : Int) := by omega
  have HT := Lib.hid t1
  have HT2 := Lib.hid t2
  clear hR hr1 hr2 hr3 s1 s2 t1 t2
  go_wp2_with fail
  go_region
  go_wp2_with fail
  go_end0
  exact ⟨rfl, ⟨hc1, hc2, fun _ => ⟨b, rfl, HT.out.ext ((Ext.refl _).drew)⟩⟩, ((Fr.of hE).trans (HT2.out.weak fun k hk => ⟨hn, by rw [hk]⟩)).drew⟩
end Go.Proofs.YtgffcblldebelaaDoor.Lp
