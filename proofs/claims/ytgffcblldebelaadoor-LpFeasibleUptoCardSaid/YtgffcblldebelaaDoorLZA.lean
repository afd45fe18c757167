/- Walks: planes of the reference of LpSmall. -/
import Derived.Test.YtgffcblldebelaaDoorLZ9
import Derived.Test.YtgffcblldebelaaDoorRArr
set_option linter.unusedVariables false
set_option linter.unusedSimpArgs false
namespace Go.Proofs.YtgffcblldebelaaDoor.Lp
open Go.RowKit Go.Proofs.YtgffcblldebelaaDoor.Big Go.Proofs.YtgffcblldebelaaDoor.Rt

theorem RowE.fr1 {P : Nat → Prop} {w w' : World} {E : TypeId} {v : Value} {us : List Value} (h : RowE w E v us) (k : Fr P w w') (hP : ∀ b, v.ownBlock = some b → ¬ P b) : RowE w' E v us := by
  obtain ⟨A, c, rfl, h1, h2, h3⟩ := h
  refine ⟨A, c, rfl, h1, h2, fun hn => ?_⟩
  obtain ⟨b, cs, rfl, hb, h4, h5⟩ := h3 hn
  exact ⟨b, cs, rfl, k.row (hP b rfl) hb, h4, h5⟩
theorem RowJ.blk {w : World} {v : Value} {xs : List Int} (h : RowJ w v xs) (hn : 0 < xs.length) : ∃ b, v.ownBlock = some b ∧ b < w.heap.size := by
  obtain ⟨A, c, rfl, h1, h2, h3⟩ := h
  obtain ⟨b, cs, rfl, hb, -⟩ := h3 (by rw [jV_len]; exact hn)
  exact ⟨b, rfl, Box.lt (E := 2) (cs := cs) hb⟩
/-- own rows, none of which lies in the block g -/
def OwnMatA (w : World) (base : Nat) (v : Value) (m : Nat) (rows : List (List Int)) (g : Option Nat) : Prop :=
  ∃ us, OwnX w base 56 1 v m us ∧ us.length = rows.length ∧ ∀ (j : Nat) (r : List Int), rows[j]? = some r → 0 < r.length ∧ ∃ u, us[j]? = some u ∧ RowJ w u r ∧ ∀ b, u.ownBlock = some b → g ≠ some b
section
variable {w w' : World} {base m : Nat} {v v' u : Value} {rows : List (List Int)} {g g' : Option Nat} {r : List Int}
theorem OwnMatA.nil (w : World) (base : Nat) (g : Option Nat) : OwnMatA w base (.slice none 0 0) 0 [] g := ⟨[], OwnX.nil _ _ _ _, rfl, fun j r h => by simp at h⟩
theorem OwnMatA.mat (h : OwnMatA w base v m rows g) : Mat w v rows := by
  obtain ⟨us, g1, g2, g3⟩ := h
  exact ⟨us, g1.rowE, g2, fun j r hj => by obtain ⟨-, u, h1, h2, -⟩ := g3 j r hj; exact ⟨u, h1, h2⟩⟩
theorem OwnMatA.shape (h : OwnMatA w base v m rows g) : ∃ A c, v = .slice A m c := by
  obtain ⟨us, g1, -⟩ := h; exact g1.shape
theorem OwnMatA.ext (h : OwnMatA w base v m rows g) (k : Ext w w') : OwnMatA w' base v m rows g := by
  obtain ⟨us, g1, g2, g3⟩ := h
  exact ⟨us, g1.ext k, g2, fun j r hj => by obtain ⟨h0, u, h1, h2, h3⟩ := g3 j r hj; exact ⟨h0, u, h1, h2.ext k, h3⟩⟩
/-- the other list is appended to -/
theorem OwnMatA.other {y y' : Value} (h : OwnMatA w base v m rows y.ownBlock) (hv : ∀ b, v.ownBlock = some b → y.ownBlock ≠ some b) (k : Fr (fun b => y.ownBlock = some b) w w') (hf : Fresh w y y') : OwnMatA w' base v m rows y'.ownBlock := by
  obtain ⟨us, g1, g2, g3⟩ := h
  refine ⟨us, g1.fr k (fun b hb => hv b hb), g2, fun j r hj => ?_⟩
  obtain ⟨h0, u, h1, h2, h3⟩ := g3 j r hj
  refine ⟨h0, u, h1, h2.fr1 k h3, fun b hb => ?_⟩
  rcases hf with e | ⟨n, e, hn⟩
  · rw [e]; exact h3 b hb
  · rw [e]
    obtain ⟨b', e', hlt⟩ := h2.blk h0
    rw [hb] at e'
    injection e' with e'
    intro e2
    injection e2 with e2
    omega
theorem OwnMatA.push {us : List Value} (o : OwnX w base 56 1 v m us) (hl : us.length = rows.length) (h : ∀ (j : Nat) (r : List Int), rows[j]? = some r → 0 < r.length ∧ ∃ u, us[j]? = some u ∧ RowJ w u r ∧ ∀ b, u.ownBlock = some b → g ≠ some b) (hr : RowJ w u r) (h0 : 0 < r.length) (hg : ∀ b, u.ownBlock = some b → g ≠ some b) (k : Fr (fun g => v.ownBlock = some g) w w') (o' : OwnX w' base 56 1 v' (m + 1) (us ++ [u])) : OwnMatA w' base v' (m + 1) (rows ++ [r]) g := by
  have hne := typ_ne o (show 56 ≠ 2 by decide)
  refine ⟨us ++ [u], o', by simp [hl], fun j s hj => ?_⟩
  rw [List.getElem?_append] at hj ⊢
  rw [hl]
  split at hj
  · next hlt =>
    rw [if_pos hlt]
    obtain ⟨h0', u', h1, h2, h3⟩ := h j s hj
    exact ⟨h0', u', h1, h2.fr k hne, h3⟩
  · next hlt =>
    rw [if_neg hlt]
    have hj0 : j - rows.length = 0 := by
      have := (List.getElem?_eq_some_iff.1 hj).1
      simp at this; omega
    rw [hj0] at hj ⊢
    have : r = s := by simpa using hj
    subst this
    exact ⟨h0, u, rfl, hr.fr k hne, hg⟩
end
theorem own_apart {w : World} {b1 b2 k1 k2 n1 n2 : Nat} {E1 E2 : TypeId} {v1 v2 : Value} {xs1 xs2 : List Value} (o1 : OwnX w b1 E1 k1 v1 n1 xs1) (o2 : OwnX w b2 E2 k2 v2 n2 xs2) (hE : E1 ≠ E2) : ∀ b, v1.ownBlock = some b → v2.ownBlock ≠ some b := fun b h1 h2 => by
  obtain ⟨-, -, cs, hcs⟩ := o1.lt h1
  obtain ⟨-, -, cs', hcs'⟩ := o2.lt h2
  rw [hcs] at hcs'
  injection hcs' with e
  injection e with _ e
  exact hE e
/-- an own array of integers -/
def ArrI (w : World) (b n : Nat) (f : Nat → Int) : Prop := ∃ cs : Array Value, w.heap[b]? = some (.cells cs 2 (0, 0)) ∧ cs.size = n ∧ ∀ j, j < n → cs[j]? = some (.int .i64 (f j))
section
variable {w w' : World} {b n : Nat} {f g : Nat → Int}
theorem ArrI.cell (h : ArrI w b n f) {j : Nat} (hj : j < n) : w.cell? ⟨b, j, none⟩ = some (.int .i64 (f j)) := by
  obtain ⟨cs, h1, _, h3⟩ := h
  rw [cell_of_row w b j cs _ (0, 0) h1]; exact h3 j hj
theorem ArrI.frozen (h : ArrI w b n f) (j : Nat) : w.frozen? ⟨b, j, none⟩ = false := by
  obtain ⟨cs, h1, _⟩ := h; simp [World.frozen?, h1]
theorem ArrI.fr {P : Nat → Prop} (h : ArrI w b n f) (k : Fr P w w') (hp : ¬ P b) : ArrI w' b n f := by
  obtain ⟨cs, h1, h2, h3⟩ := h; exact ⟨cs, k.row hp h1, h2, h3⟩
theorem ArrI.ext (h : ArrI w b n f) (k : Ext w w') : ArrI w' b n f := h.fr (P := fun _ => False) (Fr.of k) id
theorem ArrI.congr (h : ArrI w b n f) (e : ∀ j, j < n → f j = g j) : ArrI w b n g := by
  obtain ⟨cs, h1, h2, h3⟩ := h
  exact ⟨cs, h1, h2, fun j hj => by rw [← e j hj]; exact h3 j hj⟩
theorem ArrI.lt (h : ArrI w b n f) : b < w.heap.size := by
  obtain ⟨cs, h1, _⟩ := h
  exact Box.lt (E := 2) (cs := cs) h1
theorem ArrI.set (h : ArrI w b n f) {j : Nat} (hj : j < n) (x : Int) : ArrI (w.setCell ⟨b, j, none⟩ (.int .i64 x)) b n (fun i => if i = j then x else f i) ∧ Fr (fun k => k = b) w (w.setCell ⟨b, j, none⟩ (.int .i64 x)) := by
  have hF : Fr (fun k => k = b) w (w.setCell ⟨b, j, none⟩ (.int .i64 x)) := (Fr.refl (fun k => k = b) w).set (p := ⟨b, j, none⟩) rfl (fun z => by rw [h.cell hj]; intro e; cases e) _
  refine ⟨?_, hF⟩
  obtain ⟨cs, h1, h2, h3⟩ := h
  refine ⟨cs.setIfInBounds j (.int .i64 x), by simp [World.setCell, Array.getElem?_modify, h1], by simpa using h2, fun i hi => ?_⟩
  show _ = some (Value.int .i64 (if i = j then x else f i))
  by_cases e : i = j
  · subst e
    rw [if_pos rfl, Array.getElem?_setIfInBounds_self_of_lt (by omega)]
  · rw [if_neg e, Array.getElem?_setIfInBounds_ne (by omega)]; exact h3 i hi
theorem ArrI.rowJ (h : ArrI w b n f) {xs : List Int} (hl : xs.length = n) (hx : ∀ j, j < n → xs.getD j 0 = f j) (hn : n ≤ 9223372036854775807) : RowJ w (.slice (some ⟨b, 0, none⟩) n n) xs := by
  obtain ⟨cs, h1, h2, h3⟩ := h
  refine ⟨some ⟨b, 0, none⟩, n, by rw [jV_len, hl], by rw [jV_len]; omega, hn, fun _ => ⟨b, cs, rfl, h1, by rw [jV_len]; omega, fun j u hj => ?_⟩⟩
  have hlt : j < xs.length := by
    have := (List.getElem?_eq_some_iff.1 hj).1
    rwa [jV_len] at this
  rw [jV_at hlt, hx j (by omega)] at hj
  rw [h3 j (by omega)]; exact hj
end
theorem ArrI.ofK {w : World} {b n : Nat} (h : ArrK .i64 w b n 2 (fun _ => 0)) : ArrI w b n (fun _ => 0) := h
theorem left_take (p : RP) {k : Nat} (hk : k ≤ p.rows.length) : (p.left.take k) = (p.rows.take k).map RR.coef := by
  unfold RP.left
  rw [List.take_append_of_le_length (by simpa using hk), List.map_take]
theorem take_succ' {α : Type} (l : List α) {k : Nat} {a : α} (h : l[k]? = some a) : l.take (k + 1) = l.take k ++ [a] := by
  rw [List.take_add_one, h]; rfl
theorem left_at (p : RP) {k : Nat} {r : RR} (h : p.rows[k]? = some r) : p.left[k]? = some r.coef := by
  unfold RP.left
  rw [List.getElem?_append_left (by simpa using (List.getElem?_eq_some_iff.1 h).1), List.getElem?_map, h]; rfl
theorem rhs_at (p : RP) {k : Nat} {r : RR} (h : p.rows[k]? = some r) : p.rhs[k]? = some r.right := by
  unfold RP.rhs
  rw [List.getElem?_append_left (by simpa using (List.getElem?_eq_some_iff.1 h).1), List.getElem?_map, h]; rfl
theorem left_unit' (p : RP) {j : Nat} (h : j < p.obj.length) : p.left[p.rows.length + j]? = some (unitI p.obj.length j) := by
  unfold RP.left
  rw [List.getElem?_append_right (by simp), List.length_map, show p.rows.length + j - p.rows.length = j by omega, List.getElem?_map, List.getElem?_range h]; rfl
theorem rhs_unit' (p : RP) {j : Nat} (h : j < p.obj.length) : p.rhs[p.rows.length + j]? = some 0 := by
  unfold RP.rhs
  rw [List.getElem?_append_right (by simp), List.length_map, show p.rows.length + j - p.rows.length = j by omega, List.getElem?_replicate, if_pos h]
theorem left_length (p : RP) : p.left.length = p.rows.length + p.obj.length := by unfold RP.left; simp
theorem rhs_length (p : RP) : p.rhs.length = p.rows.length + p.obj.length := by unfold RP.rhs; simp
end Go.Proofs.YtgffcblldebelaaDoor.Lp
