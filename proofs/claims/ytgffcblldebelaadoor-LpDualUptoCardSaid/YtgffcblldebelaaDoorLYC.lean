/- Plain: the boxes of LpBox. -/
import Derived.Test.YtgffcblldebelaaDoorLX6A
import Derived.Test.YtgffcblldebelaaDoorLV5
set_option linter.unusedVariables false
set_option linter.unusedSimpArgs false
namespace Go.Proofs.YtgffcblldebelaaDoor.Lp
open Go.RowKit Go.Proofs.YtgffcblldebelaaDoor.Big Go.Proofs.YtgffcblldebelaaDoor.Rt

/-- the sum of the profitable columns -/
def sumB (xs ys : List Int) : Nat → Int
  | 0 => 0
  | k + 1 => if 0 < xs.getD k 0 then sumB xs ys k + xs.getD k 0 * ys.getD k 0 else sumB xs ys k
/-- the last profitable column -/
def proB (xs : List Int) : Nat → Int
  | 0 => -1
  | k + 1 => if 0 < xs.getD k 0 then (k : Int) else proB xs k
def capB (ys : List Int) (j : Nat) : Rat := ((ys.getD j 0 : Int) : Rat)
def boxPL (xs ys : List Int) : PL := ⟨xs.map (fun z : Int => (z : Rat)), (List.range xs.length).map (boxRow xs.length (capB ys))⟩
theorem getD_8 {xs : List Int} (h : ∀ x ∈ xs, -128 ≤ x ∧ x ≤ 127) (i : Nat) : -128 ≤ xs.getD i 0 ∧ xs.getD i 0 ≤ 127 := by
  rw [List.getD_eq_getElem?_getD]
  cases e : xs[i]? with
  | none => exact ⟨by show (-128 : Int) ≤ 0; omega, by show (0 : Int) ≤ 127; omega⟩
  | some x => exact h x (List.mem_of_getElem? e)
theorem getD_u8 {ys : List Int} (h : ∀ y ∈ ys, 0 ≤ y ∧ y ≤ 255) (i : Nat) : 0 ≤ ys.getD i 0 ∧ ys.getD i 0 ≤ 255 := by
  rw [List.getD_eq_getElem?_getD]
  cases e : ys[i]? with
  | none => exact ⟨by show (0 : Int) ≤ 0; omega, by show (0 : Int) ≤ 255; omega⟩
  | some y => exact h y (List.mem_of_getElem? e)
theorem mul_8 {x y : Int} (h1 : 0 < x) (h2 : x ≤ 127) (h3 : 0 ≤ y) (h4 : y ≤ 255) : 0 ≤ x * y ∧ x * y ≤ 32385 := by
  have a := Int.mul_nonneg (Int.le_of_lt h1) h3
  have b := Int.mul_le_mul h2 h4 h3 (by omega : (0 : Int) ≤ 127)
  omega
theorem sumB_le {xs ys : List Int} (hx : ∀ x ∈ xs, -128 ≤ x ∧ x ≤ 127) (hy : ∀ y ∈ ys, 0 ≤ y ∧ y ≤ 255) : ∀ k : Nat, 0 ≤ sumB xs ys k ∧ sumB xs ys k ≤ 32385 * (k : Int)
  | 0 => ⟨by show (0 : Int) ≤ 0; omega, by show (0 : Int) ≤ 32385 * 0; omega⟩
  | k + 1 => by
    obtain ⟨h1, h2⟩ := sumB_le hx hy k
    show 0 ≤ (if 0 < xs.getD k 0 then sumB xs ys k + xs.getD k 0 * ys.getD k 0 else sumB xs ys k) ∧ (if 0 < xs.getD k 0 then sumB xs ys k + xs.getD k 0 * ys.getD k 0 else sumB xs ys k) ≤ 32385 * ((k + 1 : Nat) : Int)
    split
    · next h =>
      have := mul_8 h (getD_8 hx k).2 (getD_u8 hy k).1 (getD_u8 hy k).2
      omega
    · omega
theorem proB_in (xs : List Int) : ∀ k : Nat, proB xs k = -1 ∨ ∃ j : Nat, proB xs k = (j : Int) ∧ j < k ∧ 0 < xs.getD j 0
  | 0 => .inl rfl
  | k + 1 => by
    show (if 0 < xs.getD k 0 then (k : Int) else proB xs k) = -1 ∨ ∃ j : Nat, (if 0 < xs.getD k 0 then (k : Int) else proB xs k) = (j : Int) ∧ j < k + 1 ∧ 0 < xs.getD j 0
    split
    · next h => exact .inr ⟨k, rfl, by omega, h⟩
    · rcases proB_in xs k with h | ⟨j, h1, h2, h3⟩
      · exact .inl h
      · exact .inr ⟨j, h1, by omega, h3⟩
theorem sumB_cast (xs ys : List Int) : ∀ k : Nat, ((sumB xs ys k : Int) : Rat) = sm k (fun j => if 0 < ((xs.getD j 0 : Int) : Rat) then ((xs.getD j 0 : Int) : Rat) * capB ys j else 0)
  | 0 => rfl
  | k + 1 => by
    show (((if 0 < xs.getD k 0 then sumB xs ys k + xs.getD k 0 * ys.getD k 0 else sumB xs ys k) : Int) : Rat) = sm k _ + (if 0 < ((xs.getD k 0 : Int) : Rat) then ((xs.getD k 0 : Int) : Rat) * capB ys k else 0)
    rw [← sumB_cast xs ys k]
    by_cases h : 0 < xs.getD k 0
    · rw [if_pos h, if_pos (Rat.intCast_pos.2 h)]
      unfold capB
      push_cast
      rfl
    · rw [if_neg h, if_neg (fun h' => h (Rat.intCast_pos.1 h'))]
      grind
theorem capB_nonneg {ys : List Int} (hy : ∀ y ∈ ys, 0 ≤ y ∧ y ≤ 255) (j : Nat) : 0 ≤ capB ys j := Rat.intCast_nonneg.2 (getD_u8 hy j).1
theorem boxPL_get (xs : List Int) (j : Nat) : (xs.map (fun z : Int => (z : Rat))).getD j 0 = ((xs.getD j 0 : Int) : Rat) := by
  rw [List.getD_eq_getElem?_getD, List.getElem?_map, List.getD_eq_getElem?_getD]
  cases xs[j]? <;> rfl
theorem box_valid {xs ys : List Int} (h1 : 1 ≤ xs.length) (h8 : xs.length ≤ 8) {rows : List RL} (hr : ∀ r ∈ rows, ∃ j, r = boxRow xs.length (capB ys) j) (hl : rows.length ≤ 8) : (⟨xs.map (fun z : Int => (z : Rat)), rows⟩ : PL).valid = true := by
  refine PL.valid_iff.2 ⟨by show 1 ≤ (xs.map _).length; rw [List.length_map]; exact h1, by show (xs.map _).length ≤ _; rw [List.length_map]; omega, by show rows.length ≤ 1000; omega, fun r hr' => ?_⟩
  obtain ⟨j, rfl⟩ := hr r hr'
  refine ⟨?_, by show 1 ≤ 1; omega, by show 1 ≤ 3; omega⟩
  show (unitL xs.length j).length = (xs.map _).length
  unfold unitL
  simp
theorem unitL_QB {n j i : Nat} : QB 2 ((unitL n j).getD i 0) := by
  unfold unitL
  rw [List.getD_eq_getElem?_getD, List.getElem?_set]
  split
  · split
    · exact QB_one (by omega)
    · exact QB_zero (by omega)
  · rw [List.getElem?_replicate]
    split
    · exact QB_zero (by omega)
    · exact QB_zero (by omega)
theorem QB_int {z : Int} (h1 : -2147483648 ≤ z) (h2 : z ≤ 2147483647) : QB 2 (z : Rat) := by
  have := qn_bound (n := z) (d := 0) ⟨h1, h2⟩
  rwa [qn_int] at this
theorem box_bnd {xs ys : List Int} (h1 : 1 ≤ xs.length) (h8 : xs.length ≤ 8) (hx : ∀ x ∈ xs, -128 ≤ x ∧ x ≤ 127) (hy : ∀ y ∈ ys, 0 ≤ y ∧ y ≤ 255) {rows : List RL} (hr : ∀ r ∈ rows, ∃ j, r = boxRow xs.length (capB ys) j) (hl : rows.length ≤ 8) : Bnd (⟨xs.map (fun z : Int => (z : Rat)), rows⟩ : PL).toP 24000000 := by
  have hv := box_valid h1 h8 hr hl
  have hN : (⟨xs.map (fun z : Int => (z : Rat)), rows⟩ : PL).toP.n = xs.length := by show (xs.map _).length = _; rw [List.length_map]
  have hrow : ∀ i, i < rows.length → ∃ j, rows.getD i RL.zero = boxRow xs.length (capB ys) j := fun i hi => by
    rw [List.getD_eq_getElem?_getD, List.getElem?_eq_getElem hi]
    exact hr _ (List.getElem_mem hi)
  have hK := bK3_mono (m := rows.length) (m' := 8) (k := 8) (k' := 8) (h := 2) (hr := 2) (hr' := 2) (hd := 2) hl (Nat.le_refl _) (Nat.le_refl _)
  have hK0 : bK3 8 8 2 2 2 ≤ 24000000 := by decide
  refine (Bnd.of (PL.vrel hv) 8 2 2 2 (.inl (by omega)) (by omega) (by omega) (by omega) (Nat.le_trans hK (Nat.le_trans hK0 (by omega))) (fun j hj => ?_) (fun i hi j hj => ?_) (fun i hi => ?_)).up (Nat.le_trans hK hK0) (by omega)
  · show QB 2 ((xs.map (fun z : Int => (z : Rat))).getD j 0)
    rw [boxPL_get]
    have := getD_8 hx j
    exact QB_int (by omega) (by omega)
  · obtain ⟨l, e⟩ := hrow i hi
    show QB 2 ((rows.getD i RL.zero).coef.getD j 0)
    rw [e]; exact unitL_QB
  · obtain ⟨l, e⟩ := hrow i hi
    show QB 2 (rows.getD i RL.zero).right
    rw [e]
    have := getD_u8 hy l
    exact QB_int (by omega) (by omega)
theorem boxPL_rows {xs ys : List Int} : ∀ r ∈ (boxPL xs ys).rows, ∃ j, r = boxRow xs.length (capB ys) j := fun r hr => by
  obtain ⟨j, -, rfl⟩ := List.mem_map.1 hr
  exact ⟨j, rfl⟩
theorem boxPL_opt {xs ys : List Int} (h1 : 1 ≤ xs.length) (h8 : xs.length ≤ 8) (hy : ∀ y ∈ ys, 0 ≤ y ∧ y ≤ 255) : (boxPL xs ys).err = 0 ∧ (boxPL xs ys).val = ((sumB xs ys xs.length : Int) : Rat) := by
  have hv : (boxPL xs ys).valid = true := box_valid (ys := ys) h1 h8 boxPL_rows (by show ((List.range xs.length).map _).length ≤ 8; simpa using h8)
  have hi := PL.is hv
  have e : (boxPL xs ys) = ⟨xs.map (fun z : Int => (z : Rat)), (List.range (xs.map (fun z : Int => (z : Rat))).length).map (boxRow (xs.map (fun z : Int => (z : Rat))).length (capB ys))⟩ := by
    rw [List.length_map]; rfl
  have hV : (boxPL xs ys).V = PL.V ⟨xs.map (fun z : Int => (z : Rat)), (List.range (xs.map (fun z : Int => (z : Rat))).length).map (boxRow (xs.map (fun z : Int => (z : Rat))).length (capB ys))⟩ := by rw [← e]
  rw [hV] at hi
  obtain ⟨a, b⟩ := box_opt (capB_nonneg hy) hi
  refine ⟨a, b.trans ?_⟩
  rw [sumB_cast, List.length_map]
  exact sm_congr fun j _ => by rw [boxPL_get]
/-- without a row -/
def boxCut (xs ys : List Int) (k : Nat) : PL := ⟨xs.map (fun z : Int => (z : Rat)), (boxPL xs ys).rows.take k ++ (boxPL xs ys).rows.drop (k + 1)⟩
theorem boxCut_rows {xs ys : List Int} {k : Nat} : ∀ r ∈ (boxCut xs ys k).rows, ∃ j, j < xs.length ∧ j ≠ k ∧ r = boxRow xs.length (capB ys) j := fun r hr => by
  have hget : ∀ i, (boxPL xs ys).rows[i]? = some r → i < xs.length ∧ r = boxRow xs.length (capB ys) i := fun i hi => by
    have hi : ((List.range xs.length).map (boxRow xs.length (capB ys)))[i]? = some r := hi
    rw [List.getElem?_map] at hi
    cases e : (List.range xs.length)[i]? with
    | none => rw [e] at hi; cases hi
    | some j =>
      rw [e] at hi
      injection hi with hi
      obtain ⟨hl, e2⟩ := List.getElem?_eq_some_iff.1 e
      rw [List.getElem_range] at e2
      rw [List.length_range] at hl
      exact ⟨hl, by rw [← hi, ← e2]⟩
  rcases List.mem_append.1 hr with h | h
  · obtain ⟨i, hi⟩ := List.getElem?_of_mem h
    rw [List.getElem?_take] at hi
    split at hi
    · next hik =>
      obtain ⟨a, b⟩ := hget i hi
      exact ⟨i, a, by omega, b⟩
    · cases hi
  · obtain ⟨i, hi⟩ := List.getElem?_of_mem h
    rw [List.getElem?_drop] at hi
    obtain ⟨a, b⟩ := hget _ hi
    exact ⟨k + 1 + i, a, by omega, b⟩
theorem boxCut_unb {xs ys : List Int} (h1 : 1 ≤ xs.length) (h8 : xs.length ≤ 8) (hy : ∀ y ∈ ys, 0 ≤ y ∧ y ≤ 255) {k : Nat} (hk : k < xs.length) (hp : 0 < xs.getD k 0) : (boxCut xs ys k).valid = true ∧ (boxCut xs ys k).err = 18 := by
  have hl : (boxCut xs ys k).rows.length ≤ 8 := by
    show (((List.range xs.length).map _).take k ++ ((List.range xs.length).map _).drop (k + 1)).length ≤ 8
    simp
    omega
  have hv : (boxCut xs ys k).valid = true := box_valid (ys := ys) h1 h8 (fun r hr => by obtain ⟨j, -, -, e⟩ := boxCut_rows r hr; exact ⟨j, e⟩) hl
  refine ⟨hv, ?_⟩
  have hi := PL.is hv
  refine box_unb (obj := xs.map (fun z : Int => (z : Rat))) (cap := capB ys) (capB_nonneg hy) (k := k) (by rw [List.length_map]; exact hk) (by rw [boxPL_get]; exact Rat.intCast_pos.2 hp) (rows := (boxCut xs ys k).rows) (fun r hr => ?_) hi
  obtain ⟨j, a, b, e⟩ := boxCut_rows r hr
  rw [List.length_map]
  exact ⟨j, a, b, e⟩
end Go.Proofs.YtgffcblldebelaaDoor.Lp
