/- Memory: rows of texts, lists of the reference's nodes. -/
import Derived.Test.YtljncdcjkdgkeaaGreatDoorRCDO
set_option linter.unusedVariables false
set_option linter.unusedSimpArgs false
namespace Go.Proofs.YtljncdcjkdgkeaaGreatDoor.Dc
open Go.RowKit Go.Proofs.YtljncdcjkdgkeaaGreatDoor.Big Go.Proofs.YtljncdcjkdgkeaaGreatDoor.Lp Go.Proofs.YtljncdcjkdgkeaaGreatDoor.Rt

theorem infoNode : (Tryz.prog.info? 127).map (fun i => (i.zero, i.size, i.bytes)) = some (some (.agg #[.int .i64 0, .int .i64 0, .bool false, .slice none 0 0, .int .i64 0, .int .i64 0]), 6, 64) := by kernel_rfl
theorem zNode : ∀ u ∈ (Value.agg #[.int .i64 0, .int .i64 0, .bool false, .slice none 0 0, .int .i64 0, .int .i64 0]).cells.toList, noU u = true := fun u hu => by
  simp [Value.cells] at hu
  rcases hu with rfl | rfl | rfl | rfl <;> rfl
theorem infoStr : (Tryz.prog.info? 9).map (fun i => (i.zero, i.size, i.bytes)) = some (some (.string ⟨#[]⟩), 1, 16) := by kernel_rfl
theorem zStr : ∀ u ∈ (Value.string ⟨#[]⟩).cells.toList, noU u = true := fun u hu => by
  have : u = .string ⟨#[]⟩ := by simpa [Value.cells] using hu
  rw [this]; rfl
theorem sV_snoc (P : List BL) (q : BL) : sV (P ++ [q]) = sV P ++ [.string (str q)] := by simp [sV]
/-- a row of texts -/
def RowS (w : World) (v : Value) (ys : List BL) : Prop := ∃ A c, v = .slice A ys.length c ∧ ys.length ≤ c ∧ c ≤ 9223372036854775807 ∧ (0 < ys.length → ∃ b, A = some ⟨b, 0, none⟩ ∧ (∃ cur, w.heap[b]? = some (.cells cur 9 (0, 0))) ∧ ∀ j x, ys[j]? = some x → w.cell? ⟨b, j, none⟩ = some (.string (str x)))
section
variable {w w' : World} {v : Value} {ys : List BL} {base n : Nat}
theorem RowS.fr {P : Nat → Prop} (h : RowS w v ys) (k : Fr P w w') (hP : ∀ b cur, w.heap[b]? = some (.cells cur 9 (0, 0)) → ¬ P b) : RowS w' v ys := by
  obtain ⟨A, c, e, g1, g2, h⟩ := h
  refine ⟨A, c, e, g1, g2, fun h0 => ?_⟩
  obtain ⟨b, e, ⟨cur, hc⟩, hx⟩ := h h0
  exact ⟨b, e, ⟨cur, k.row (hP b cur hc) hc⟩, fun j x hj => k.cell (hP b cur hc) (hx j x hj)⟩
theorem RowS.ext (h : RowS w v ys) (k : Ext w w') : RowS w' v ys := h.fr (P := fun _ => False) (Fr.of k) (fun _ _ _ => id)
theorem RowS.of_own (o : OwnX w base 9 1 v ys.length (sV ys)) : RowS w v ys := by
  have hcc : ∃ A c, v = .slice A ys.length c ∧ ys.length ≤ c ∧ c ≤ 9223372036854775807 := by
    rcases o.2 with ⟨hv, h0⟩ | ⟨g, cap, cur, hv, -, -, h6, h7, -⟩
    · exact ⟨none, 0, by rw [hv, h0], by omega, by omega⟩
    · exact ⟨_, cap, hv, h6, by unfold maxLen at h7; exact h7⟩
  obtain ⟨A, c, rfl, g1, g2⟩ := hcc
  refine ⟨A, c, rfl, g1, g2, fun h0 => ?_⟩
  obtain ⟨g, cap, e, -, -, -, -, ⟨cur, hc, -⟩, -, hx⟩ := o.cells h0
  injection e with e _ _
  exact ⟨g, e, ⟨cur, hc⟩, fun j x hj => hx j _ (sV_get hj)⟩
end
/-- the nodes whose cells g gives -/
def NodZ (w : World) (g : Nat → Option Value) (l : List RN) : Prop :=
  ∀ i x, l[i]? = some x → ∃ v, g (i * 6) = some (.int .i64 x.vr) ∧ g (i * 6 + 1) = some (.int .i64 x.fl) ∧ g (i * 6 + 2) = some (.bool x.em) ∧ g (i * 6 + 3) = some v ∧ g (i * 6 + 4) = some (.int .i64 0) ∧ g (i * 6 + 5) = some (.int .i64 0) ∧ RowS w v x.ys
/-- nodes in a row of the call's own -/
def NodX (w : World) (base : Nat) (v : Value) (l : List RN) : Prop := ∃ xs, OwnX w base 127 6 v l.length xs ∧ NodZ w (fun i => xs[i]?) l
/-- nodes, wherever they lie -/
def NodV (w : World) (v : Value) (l : List RN) : Prop := ∃ A c, v = .slice A l.length c ∧ (0 < l.length → ∃ b, A = some ⟨b, 0, none⟩ ∧ NodZ w (fun i => w.cell? ⟨b, i, none⟩) l)
section
variable {w w' : World} {v : Value} {l : List RN} {base : Nat}
theorem NodZ.fr {P : Nat → Prop} {g : Nat → Option Value} (h : NodZ w g l) (k : Fr P w w') (hP : ∀ b cur, w.heap[b]? = some (.cells cur 9 (0, 0)) → ¬ P b) : NodZ w' g l := by
  intro i x hx
  obtain ⟨v, h0, h1, h2, h3, h4, h5, h6⟩ := h i x hx
  exact ⟨v, h0, h1, h2, h3, h4, h5, h6.fr k hP⟩
theorem NodX.ext (h : NodX w base v l) (k : Ext w w') : NodX w' base v l := by
  obtain ⟨xs, o, h⟩ := h
  exact ⟨xs, o.ext k, h.fr (P := fun _ => False) (Fr.of k) (fun _ _ _ => id)⟩
theorem NodX.nil (w : World) (base : Nat) : NodX w base (.slice none 0 0) [] := ⟨[], OwnX.nil _ _ _ _, fun i x h => by cases h⟩
theorem NodX.shape (h : NodX w base v l) : ∃ A c, v = .slice A l.length c := by
  obtain ⟨xs, o, -⟩ := h
  exact o.shape
theorem NodX.val (h : NodX w base v l) : NodV w v l := by
  obtain ⟨xs, o, hz⟩ := h
  obtain ⟨A, c, rfl⟩ := o.shape
  refine ⟨A, c, rfl, fun h0 => ?_⟩
  obtain ⟨g, cap, e, -, -, -, -, -, -, hx⟩ := o.cells h0
  injection e with e _ _
  refine ⟨g, e, fun i x hi => ?_⟩
  obtain ⟨y, h0, h1, h2, h3, h4, h5, h6⟩ := hz i x hi
  exact ⟨y, hx _ _ h0, hx _ _ h1, hx _ _ h2, hx _ _ h3, hx _ _ h4, hx _ _ h5, h6⟩
theorem NodV.ext (h : NodV w v l) (k : Ext w w') : NodV w' v l := by
  obtain ⟨A, c, e, h⟩ := h
  refine ⟨A, c, e, fun h0 => ?_⟩
  obtain ⟨b, e, hz⟩ := h h0
  refine ⟨b, e, fun i x hi => ?_⟩
  obtain ⟨y, h0, h1, h2, h3, h4, h5, h6⟩ := hz i x hi
  exact ⟨y, k.cell h0, k.cell h1, k.cell h2, k.cell h3, k.cell h4, k.cell h5, h6.ext k⟩
end
def cell6 (x : RN) (v : Value) : List Value := [.int .i64 x.vr, .int .i64 x.fl, .bool x.em, v, .int .i64 0, .int .i64 0]
/-- a node is appended -/
theorem NodX.push {w W w' : World} {base : Nat} {v v' : Value} {l : List RN} {x : RN} {y : Value} {xs : List Value} (o : OwnX w base 127 6 v l.length xs) (hz : NodZ W (fun i => xs[i]?) l) (hy : RowS W y x.ys) (hW : Ext w W)
    (o' : OwnX w' base 127 6 v' (l.length + 1) (xs ++ cell6 x y)) (hF : Fr (fun g => v.ownBlock = some g) W w') : NodX w' base v' (l ++ [x]) := by
  have hP : ∀ b cur, W.heap[b]? = some (.cells cur 9 (0, 0)) → ¬ v.ownBlock = some b := fun b cur hc hb => by
    obtain ⟨-, -, cur', hc'⟩ := (o.ext hW).lt hb
    rw [hc] at hc'
    injection hc' with hc'
    injection hc' with _ e _
    exact absurd e (by decide)
  have hlen : xs.length = l.length * 6 := o.1
  refine ⟨xs ++ cell6 x y, by rw [List.length_append]; exact o', fun i z hi => ?_⟩
  rcases Nat.lt_or_ge i l.length with h | h
  · rw [List.getElem?_append_left h] at hi
    obtain ⟨u, h0, h1, h2, h3, h4, h5, h6⟩ := hz i z hi
    refine ⟨u, ?_, ?_, ?_, ?_, ?_, ?_, h6.fr hF hP⟩
    all_goals (dsimp only; rw [List.getElem?_append_left (by omega)]; assumption)
  · have hi' := hi
    rw [List.getElem?_append_right h] at hi'
    have e : i = l.length := by
      have := (List.getElem?_eq_some_iff.1 hi).1
      rw [List.length_append, List.length_singleton] at this
      omega
    subst e
    rw [Nat.sub_self] at hi'
    injection hi' with hi'
    subst hi'
    refine ⟨y, ?_, ?_, ?_, ?_, ?_, ?_, hy.fr hF hP⟩
    all_goals (dsimp only; rw [List.getElem?_append_right (by omega), hlen]; first | (rw [Nat.sub_self]; rfl) | (rw [Nat.add_sub_cancel_left]; rfl))
end Go.Proofs.YtljncdcjkdgkeaaGreatDoor.Dc
