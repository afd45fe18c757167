/- A row taken out of a problem in memory (LpBox). -/
import Derived.Test.YtgffcblldebelaaDoorLYA
import Derived.Test.YtgffcblldebelaaDoorLYC
import Derived.Deep.RegionLawGrows
set_option linter.unusedVariables false
set_option linter.unusedSimpArgs false
namespace Go.Proofs.YtgffcblldebelaaDoor.Lp
open Go.RowKit Go.Proofs.YtgffcblldebelaaDoor.Big Go.Proofs.YtgffcblldebelaaDoor.Rt

/-- append of nothing, as a step of a region that draws -/
theorem step_nothing {w : World} {ops : Array Oper} {o : Oper} {a : Act} {K : Act → World → Prop} {Q : Exit → Act → World → Prop} {Z : Prop}
    (hg : o.guard = none) (s x : Operand) (t : TypeId) (hop : o.op = Op.call { callee := Callee.builtin Builtin.append, args := #[s, x], argTypes := #[t, t] })
    (e : TypeId) (i : TypeInfo) (h1 : Tryd.prog.underlying t = some (.slice e)) (h2 : Tryd.prog.info? e = some i) (ao : Option Addr) (n cap : Nat) (hle : n ≤ cap) (hs : a.eval s = .slice ao n cap) (A : Option Addr) (c : Nat) (hx : a.eval x = .slice A 0 c)
    (hK : K (a.put o.dst (.slice ao n cap)) w) :
    if Region.wanted o (yielded ops a.tmps) = true then Oper.wp Tryd.prog o a w K Q else Z := by
  have hw : Region.wanted o (yielded ops a.tmps) = true := by simp [Region.wanted, hg]
  rw [if_pos hw]
  have hrun : (Builtin.append_ #[t, t] o.type #[.slice ao n cap, .slice A 0 c]).run Tryd.prog w = .ok (.slice ao n cap) w := by
    cases A with
    | none => cases ao <;> simp [Builtin.append_, run_underlying h1, sizeOf, typeInfo, h2, Builtin.lenOf, Builtin.firstCells, hle, storeCells]
    | some ad =>
      have hf := run_firstCells_some (P := Tryd.prog) w i.size 0 ad 0 c [] (by simp) (fun j v hj => by simp at hj)
      cases ao <;> simp [Builtin.append_, run_underlying h1, sizeOf, typeInfo, h2, Builtin.lenOf, hf, hle, storeCells]
  unfold Oper.wp
  simp [execOp, hop, resolve, invoke, builtin, hs, hx, hrun, Result.andThen]
  exact hK
theorem MRows.one {w : World} {base lo m : Nat} {p : Prob} {rA : Nat → Option Addr} {rc : Nat → Nat} {xs : List Value} (h : MRows w base lo m p rA rc (fun i => xs[i]?)) (hl : xs.length = m * 6) : ∀ u ∈ xs, u.oneCell' = true := fun u hu => by
  obtain ⟨t, ht⟩ := List.getElem?_of_mem hu
  have htl := (List.getElem?_eq_some_iff.1 ht).1
  obtain ⟨g0, g1, -, x, B, d, e, y, B', d', e', g2, g3, g4, g5, -⟩ := h.row (t / 6) (by omega)
  have hr : t % 6 = 0 ∨ t % 6 = 1 ∨ t % 6 = 2 ∨ t % 6 = 3 ∨ t % 6 = 4 ∨ t % 6 = 5 := by omega
  rcases hr with hr | hr | hr | hr | hr | hr
  · rw [show t = t / 6 * 6 by omega] at ht; rw [ht] at g0; injection g0 with g0; rw [g0]; rfl
  · rw [show t = t / 6 * 6 + 1 by omega] at ht; rw [ht] at g1; injection g1 with g1; rw [g1]; rfl
  · rw [show t = t / 6 * 6 + 2 by omega] at ht; rw [ht] at g2; injection g2 with g2; rw [g2]; rfl
  · rw [show t = t / 6 * 6 + 3 by omega] at ht; rw [ht] at g3; injection g3 with g3; rw [g3]; rfl
  · rw [show t = t / 6 * 6 + 4 by omega] at ht; rw [ht] at g4; injection g4 with g4; rw [g4]; rfl
  · rw [show t = t / 6 * 6 + 5 by omega] at ht; rw [ht] at g5; injection g5 with g5; rw [g5]; rfl
theorem own_form {w : World} {base : Nat} {e : TypeId} {size : Nat} {v : Value} {n : Nat} {xs : List Value} (h : w.ownsRow base e size v n xs) (hn : 0 < n) : ∃ g cap, v = .slice (some ⟨g, 0, none⟩) n cap ∧ base ≤ g ∧ n ≤ cap ∧ cap ≤ 9223372036854775807 := by
  rcases h.2 with ⟨_, h0⟩ | ⟨g, cap, cur, hv, hb, _, h1, h2, _⟩
  · omega
  · exact ⟨g, cap, hv, hb, h1, by unfold maxLen at h2; exact h2⟩
/-- the place of a row that stays -/
def past (j i : Nat) : Nat := if i < j then i else i + 1
theorem cut_get {xs : List Value} {n j i r : Nat} (hl : xs.length = n * 6) (hi : i < n - 1) (hr : r < 6) (hj : j < n) : (xs.take (j * 6) ++ xs.drop ((j + 1) * 6))[i * 6 + r]? = xs[past j i * 6 + r]? := by
  have hlt : (xs.take (j * 6)).length = j * 6 := by rw [List.length_take, hl]; omega
  unfold past
  by_cases h : i < j
  · rw [if_pos h, List.getElem?_append_left (by rw [hlt]; omega), List.getElem?_take, if_pos (by omega)]
  · rw [if_neg h, List.getElem?_append_right (by rw [hlt]; omega), hlt, List.getElem?_drop]
    congr 1; omega
/-- the problem without a row -/
theorem cut_prob {W : World} {AO A1 : Option Addr} {cO g c1 n j base lo : Nat} {p P' : Prob} {xs : List Value} {rA : Nat → Option Addr} {rc : Nat → Nat} (hobj : RatsV W AO n cO p.obj) (hm : MRows W base lo n p rA rc (fun i => xs[i]?)) (hj : j < n) (hA : A1 = some ⟨g, 0, none⟩) (hc : n - 1 ≤ c1) (hc2 : c1 ≤ 9223372036854775807)
    (hcell : ∀ i r, i < n - 1 → r < 6 → ∀ u, xs[past j i * 6 + r]? = some u → W.cell? ⟨g, i * 6 + r, none⟩ = some u) (h1 : P'.n = n) (h2 : P'.m = n - 1) (h3 : P'.obj = p.obj) (h4 : ∀ i, i < n - 1 → P'.len i = p.len (past j i) ∧ P'.rel i = p.rel (past j i) ∧ P'.right i = p.right (past j i) ∧ P'.coef i = p.coef (past j i)) :
    ProbV W (.agg #[.slice AO n cO, .slice A1 (n - 1) c1]) P' := by
  subst hA
  refine ⟨AO, cO, some ⟨g, 0, none⟩, c1, by rw [h1, h2], by rw [h1, h3]; exact hobj, by omega, hc2, fun _ => ⟨g, rfl, fun i hi => ?_⟩⟩
  rw [h2] at hi
  have hp : past j i < n := by unfold past; split <;> omega
  obtain ⟨e1, e2, e3, e4⟩ := h4 i hi
  obtain ⟨g0, g1, g2, x, B, d, e, z, B', d', e', g3, g4, g5, g6, hr⟩ := hm.row _ hp
  have hco := (hm.coef _ hp).rats
  rw [e1, e2, e3, e4]
  exact ⟨rA (past j i), rc (past j i), x, B, d, e, z, B', d', e', hcell i 0 hi (by omega) _ g0, hcell i 1 hi (by omega) _ g1, hcell i 2 hi (by omega) _ g3, hcell i 3 hi (by omega) _ g4, hcell i 4 hi (by omega) _ g5, hcell i 5 hi (by omega) _ g6, hco, g2, hr⟩
theorem boxCut_getD {xs ys : List Int} {j i : Nat} (hj : j < xs.length) (hi : i < xs.length - 1) : (boxCut xs ys j).rows.getD i RL.zero = (boxPL xs ys).rows.getD (past j i) RL.zero := by
  have hlen : (boxPL xs ys).rows.length = xs.length := by show ((List.range xs.length).map _).length = _; simp
  have hlt : ((boxPL xs ys).rows.take j).length = j := by rw [List.length_take, hlen]; omega
  show ((boxPL xs ys).rows.take j ++ (boxPL xs ys).rows.drop (j + 1)).getD i RL.zero = _
  rw [List.getD_eq_getElem?_getD, List.getD_eq_getElem?_getD]
  congr 1
  unfold past
  by_cases h : i < j
  · rw [if_pos h, List.getElem?_append_left (by omega), List.getElem?_take, if_pos h]
  · rw [if_neg h, List.getElem?_append_right (by omega), hlt, List.getElem?_drop]
    congr 1; omega
theorem boxCut_toP {xs ys : List Int} {j n : Nat} (hn : n = xs.length) (hj : j < n) : (boxCut xs ys j).toP.n = n ∧ (boxCut xs ys j).toP.m = n - 1 ∧ (boxCut xs ys j).toP.obj = (boxPL xs ys).toP.obj ∧
    ∀ i, i < n - 1 → (boxCut xs ys j).toP.len i = (boxPL xs ys).toP.len (past j i) ∧ (boxCut xs ys j).toP.rel i = (boxPL xs ys).toP.rel (past j i) ∧ (boxCut xs ys j).toP.right i = (boxPL xs ys).toP.right (past j i) ∧ (boxCut xs ys j).toP.coef i = (boxPL xs ys).toP.coef (past j i) := by
  subst hn
  refine ⟨by show (xs.map _).length = _; simp, ?_, rfl, fun i hi => ?_⟩
  · show (((List.range xs.length).map _).take j ++ ((List.range xs.length).map _).drop (j + 1)).length = _
    simp; omega
  · have h := boxCut_getD (xs := xs) (ys := ys) hj hi
    refine ⟨?_, ?_, ?_, ?_⟩
    · show ((boxCut xs ys j).rows.getD i RL.zero).coef.length = ((boxPL xs ys).rows.getD (past j i) RL.zero).coef.length
      rw [h]
    · show ((boxCut xs ys j).rows.getD i RL.zero).rel = ((boxPL xs ys).rows.getD (past j i) RL.zero).rel
      rw [h]
    · show ((boxCut xs ys j).rows.getD i RL.zero).right = ((boxPL xs ys).rows.getD (past j i) RL.zero).right
      rw [h]
    · show (fun k => ((boxCut xs ys j).rows.getD i RL.zero).coef.getD k 0) = fun k => ((boxPL xs ys).rows.getD (past j i) RL.zero).coef.getD k 0
      rw [h]
end Go.Proofs.YtgffcblldebelaaDoor.Lp
