/- Plain: whether a list of rows holds a fraction; lists of one element that are appended to. -/
import Derived.Test.YthafabkjidifeaaIBR
import Derived.Test.YthafabkjidifeaaIPL
set_option linter.unusedVariables false
set_option linter.unusedSimpArgs false
namespace Go.Proofs.Ythafabkjidifeaa.Lp
open Go.RowKit Go.Proofs.Ythafabkjidifeaa.Big Go.Proofs.Ythafabkjidifeaa.Rt

/-- some number is a fraction -/
def frN (f : Nat → Rat) : Nat → Bool
  | 0 => false
  | n + 1 => frN f n || decide ((f n).den ≠ 1)
theorem frN_iff {f : Nat → Rat} {n : Nat} : frN f n = false ↔ ∀ j, j < n → (f j).den = 1 := by
  induction n with
  | zero => exact ⟨fun _ j hj => absurd hj (by omega), fun _ => rfl⟩
  | succ n ih =>
    show (frN f n || decide ((f n).den ≠ 1)) = false ↔ _
    rw [Bool.or_eq_false_iff, ih, decide_eq_false_iff_not, Decidable.not_not]
    refine ⟨fun h j hj => ?_, fun h => ⟨fun j hj => h j (by omega), h n (by omega)⟩⟩
    rcases Nat.lt_or_ge j n with hlt | hge
    · exact h.1 j hlt
    · obtain rfl : j = n := by omega
      exact h.2
/-- the numbers of a row, the right side first -/
def RL.nums (r : RL) (j : Nat) : Rat := if j = 0 then r.right else r.coef.getD (j - 1) 0
theorem RL.nums_zero (r : RL) : r.nums 0 = r.right := rfl
theorem RL.nums_succ (r : RL) (j : Nat) : r.nums (j + 1) = r.coef.getD j 0 := rfl
/-- some number of the first k rows is a fraction -/
def frR (R : List RL) : Nat → Bool
  | 0 => false
  | k + 1 => frR R k || frN (R.getD k RL.zero).nums ((R.getD k RL.zero).coef.length + 1)
theorem frR_iff {R : List RL} {k : Nat} : frR R k = false ↔ ∀ i, i < k → ∀ j, j < (R.getD i RL.zero).coef.length + 1 → ((R.getD i RL.zero).nums j).den = 1 := by
  induction k with
  | zero => exact ⟨fun _ j hj => absurd hj (by omega), fun _ => rfl⟩
  | succ k ih =>
    show (frR R k || frN (R.getD k RL.zero).nums ((R.getD k RL.zero).coef.length + 1)) = false ↔ _
    rw [Bool.or_eq_false_iff, ih, frN_iff]
    refine ⟨fun h i hi => ?_, fun h => ⟨fun i hi => h i (by omega), h k (by omega)⟩⟩
    rcases Nat.lt_or_ge i k with hlt | hge
    · exact h.1 i hlt
    · obtain rfl : i = k := by omega
      exact h.2
theorem frR_int (P : PL) : frR (⟨P.obj, 0, 0⟩ :: P.rows) (P.rows.length + 1) = !intB P.toP := by
  have key : frR (⟨P.obj, 0, 0⟩ :: P.rows) (P.rows.length + 1) = false ↔ intB P.toP = true := by
    rw [frR_iff]
    unfold intB
    rw [Bool.and_eq_true, intL_iff, intR_iff]
    constructor
    · intro h
      refine ⟨fun j hj => ?_, fun i hi => ⟨?_, fun j hj => ?_⟩⟩
      · exact h 0 (by omega) (j + 1) (Nat.succ_lt_succ hj)
      · exact h (i + 1) (Nat.succ_lt_succ hi) 0 (by omega)
      · exact h (i + 1) (Nat.succ_lt_succ hi) (j + 1) (Nat.succ_lt_succ hj)
    · rintro ⟨h1, h2⟩ i hi j hj
      cases i with
      | zero =>
        cases j with
        | zero => rfl
        | succ j => exact h1 j (Nat.lt_of_succ_lt_succ hj)
      | succ i =>
        obtain ⟨h3, h4⟩ := h2 i (Nat.lt_of_succ_lt_succ hi)
        cases j with
        | zero => exact h3
        | succ j => exact h4 j (Nat.lt_of_succ_lt_succ hj)
  cases h1 : frR (⟨P.obj, 0, 0⟩ :: P.rows) (P.rows.length + 1) with
  | false => rw [key.1 h1]; rfl
  | true =>
    cases h2 : intB P.toP with
    | false => rfl
    | true => rw [key.2 h2] at h1; cases h1

/-! memory -/
/-- a list of one element that the call has made -/
theorem own_one {w : World} {g k : Nat} {E : TypeId} {cs : List Value} (hB : Box w g E cs.toArray) (hk : cs.length = k) (hn : ∀ u ∈ cs, noU u = true) : OwnX w g E k (.slice (some ⟨g, 0, none⟩) 1 1) 1 cs := by
  refine ⟨by omega, .inr ⟨g, 1, cs.toArray, rfl, Nat.le_refl _, hB, Nat.le_refl _, by unfold maxLen; omega, by simp [hk], by simp [← hk], by simpa using hn⟩⟩
theorem nou4' {p p' : Bool} {A A' : Option Addr} {m c m' c' : Nat} : ∀ u ∈ [Value.bool p, .slice A m c, .bool p', .slice A' m' c'], noU u = true := by
  intro u hu
  simp at hu
  rcases hu with rfl | rfl | rfl | rfl <;> rfl
theorem nou6' {s : Value} {r : Int} {p p' : Bool} {A A' B : Option Addr} {m c m' c' n d : Nat} (hs : s = .slice B n d) : ∀ u ∈ [s, Value.int .u8 r, .bool p, .slice A m c, .bool p', .slice A' m' c'], noU u = true := by
  intro u hu
  subst hs
  simp at hu
  rcases hu with rfl | rfl | rfl | rfl | rfl | rfl <;> rfl
/-- a number ahead of a list of numbers -/
theorem ownQ_cons {w : World} {base : Nat} {v : Value} {l : Nat} {p p' : Bool} {A A' : Option Addr} {m c m' c' : Nat} {q : Rat} {xs : List Value} {f g : Nat → Rat}
    (h : OwnX w base 59 4 v (1 + l) ([.bool p, .slice A m c, .bool p', .slice A' m' c'] ++ xs)) (hq : RatV w (.agg #[.bool p, .slice A m c, .bool p', .slice A' m' c']) q) (hx : ∀ j, j < l → At w xs.toArray (j * 4) (f j)) (h0 : g 0 = q) (hs : ∀ j, j < l → g (j + 1) = f j) : OwnQ w base v (1 + l) g := by
  refine ⟨_, h, fun j hj => ?_⟩
  cases j with
  | zero => exact ⟨p, A, m, c, p', A', m', c', by simp, by simp, by simp, by simp, by rw [h0]; exact hq⟩
  | succ j =>
    obtain ⟨q1, B, n, d, q1', B', n', d', a0, a1, a2, a3, a4⟩ := hx j (by omega)
    have key : ∀ i, (Value.bool p :: .slice A m c :: .bool p' :: .slice A' m' c' :: xs).toArray[(j + 1) * 4 + i]? = xs.toArray[j * 4 + i]? := fun i => by
      rw [show (j + 1) * 4 + i = j * 4 + i + 1 + 1 + 1 + 1 by omega]
      simp
    exact ⟨q1, B, n, d, q1', B', n', d', (key 0).trans a0, (key 1).trans a1, (key 2).trans a2, (key 3).trans a3, by rw [hs j (by omega)]; exact a4⟩
/-- a row ahead of a list of rows -/
theorem PRows.cons {w : World} {xs ys : List Value} {rows : List RL} {r : RL} (h : PRows w (fun i => xs[i]?) rows) (hl : ys.length = 6) (hr : PRX w (fun i => ys[i]?) 0 r) : PRows w (fun i => (ys ++ xs)[i]?) (r :: rows) := by
  intro j s hj
  cases j with
  | zero =>
    obtain rfl : r = s := by simpa using hj
    refine hr.X fun i hi u hu => ?_
    have hu : ys[0 + i]? = some u := hu
    show (ys ++ xs)[0 * 6 + i]? = some u
    rw [Nat.zero_mul, List.getElem?_append_left (by omega)]
    exact hu
  | succ j =>
    have hj : rows[j]? = some s := by simpa using hj
    refine (h j s hj).X fun i hi u hu => ?_
    show (ys ++ xs)[(j + 1) * 6 + i]? = some u
    rw [List.getElem?_append_right (by omega), ← hu]
    show xs[(j + 1) * 6 + i - ys.length]? = xs[j * 6 + i]?
    congr 1; omega
/-- the row of the objective -/
theorem prx_obj {w : World} {Ao : Option Addr} {n c : Nat} {l : List Rat} (hl : l.length = n) (h : RatsV w Ao n c (fun j => l.getD j 0)) : PRX w (fun i => [Value.slice Ao n c, .int .u8 0, .bool false, .slice none 0 0, .bool false, .slice none 0 0][i]?) 0 ⟨l, 0, 0⟩ := by
  subst hl
  exact ⟨Ao, c, false, none, 0, 0, false, none, 0, 0, rfl, rfl, rfl, rfl, rfl, rfl, Nat.zero_le _, h, RatV.zero w⟩
theorem IP.lens {ip : IP} (h : ip.ok) : ∀ r ∈ ip.pl.rows, r.coef.length ≤ 1048576 := by
  intro r hr
  obtain ⟨x, hx, rfl⟩ := List.mem_map.1 hr
  show (x.coef.map _).length ≤ _
  rw [List.length_map]
  exact (h.2.2.2.2 x hx).2.2.2
theorem ProbV.objsE {w : World} {p : Prob} {Ao : Option Addr} {n co : Nat} {r : Value} (h : ProbV w (.agg #[.slice Ao n co, r]) p) : RatsV w Ao n co p.obj := by
  obtain ⟨Ao', co', Ar', cr', e, h1, -⟩ := h
  injection e with e
  have e1 : Value.slice Ao n co = Value.slice Ao' p.n co' := by
    have := congrArg (fun a : Array Value => a[0]?) e
    simpa using this
  injection e1 with e1 e2 e3
  subst e1 e3
  rw [e2]
  exact h1
end Go.Proofs.Ythafabkjidifeaa.Lp
