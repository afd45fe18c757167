/- Plain: a feasible linear program has a vertex, an optimum is attained at one. -/
import Derived.Test.YtgffcblldebelaaDoorLJ
set_option linter.unusedVariables false
set_option linter.unusedSimpArgs false
namespace Go.Proofs.YtgffcblldebelaaDoor.Lp

/-- a list has a least element -/
theorem least_of {α : Type} (f : α → Rat) : ∀ l : List α, l ≠ [] → ∃ m, m ∈ l ∧ ∀ k, k ∈ l → f m ≤ f k
  | [], h => absurd rfl h
  | [a], _ => ⟨a, List.mem_singleton_self a, fun k hk => by rw [List.mem_singleton.1 hk]; exact Rat.le_refl⟩
  | a :: b :: l, _ => by
    obtain ⟨m, hm, h⟩ := least_of f (b :: l) (by simp)
    by_cases hle : f a ≤ f m
    · refine ⟨a, List.mem_cons_self, fun k hk => ?_⟩
      rcases List.mem_cons.1 hk with rfl | hk
      · exact Rat.le_refl
      · exact Rat.le_trans hle (h k hk)
    · refine ⟨m, List.mem_cons_of_mem _ hm, fun k hk => ?_⟩
      rcases List.mem_cons.1 hk with rfl | hk
      · exact Rat.le_of_lt (Rat.not_le.1 hle)
      · exact h k hk
/-- a constraint: c at x, and e, is not negative -/
structure Con where
  c : Nat → Rat
  e : Rat
def Con.at (n : Nat) (k : Con) (x : Nat → Rat) : Rat := dot n k.c x + k.e
def FeasC (n : Nat) (L : List Con) (x : Nat → Rat) : Prop := ∀ k, k ∈ L → 0 ≤ k.at n x
theorem dot_lin (n : Nat) (c x d : Nat → Rat) (t : Rat) : dot n c (fun j => x j + t * d j) = dot n c x + t * dot n c d := by
  unfold dot
  rw [← sm_mul, ← sm_add]
  exact sm_congr fun j _ => by grind
theorem Con.lin (n : Nat) (k : Con) (x d : Nat → Rat) (t : Rat) : k.at n (fun j => x j + t * d j) = k.at n x + t * dot n k.c d := by
  unfold Con.at
  rw [dot_lin]; grind
/-- a step in a direction that leaves what is tight: as far as possible -/
theorem step_far {n : Nat} {L : List Con} {x d : Nat → Rat} (hx : FeasC n L x) (hd : ∀ k, k ∈ L → k.at n x = 0 → dot n k.c d = 0) (hl : ∃ k, k ∈ L ∧ dot n k.c d < 0) :
    ∃ t, 0 < t ∧ FeasC n L (fun j => x j + t * d j) ∧ ∃ k, k ∈ L ∧ k.at n x ≠ 0 ∧ k.at n (fun j => x j + t * d j) = 0 := by
  have hne : (L.filter fun k => decide (dot n k.c d < 0)) ≠ [] := by
    obtain ⟨k, hk, h⟩ := hl
    intro e
    have : k ∈ L.filter fun k => decide (dot n k.c d < 0) := List.mem_filter.2 ⟨hk, by simpa using h⟩
    rw [e] at this; cases this
  obtain ⟨m, hm, hmin⟩ := least_of (fun k => k.at n x / -(dot n k.c d)) _ hne
  obtain ⟨hmL, hmd⟩ := List.mem_filter.1 hm
  have hmd : dot n m.c d < 0 := by simpa using hmd
  have hm0 : m.at n x ≠ 0 := fun e => by have := hd m hmL e; grind
  have hmp : 0 < m.at n x := by have := hx m hmL; grind
  have ht : 0 < m.at n x / -(dot n m.c d) := by
    rw [Rat.div_def]
    exact Rat.mul_pos hmp (Rat.inv_pos.2 (by grind))
  have hmt : m.at n x / -(dot n m.c d) * -(dot n m.c d) = m.at n x := div_mul' (by grind)
  refine ⟨m.at n x / -(dot n m.c d), ht, fun k hk => ?_, m, hmL, hm0, ?_⟩
  · rw [Con.lin]
    by_cases hneg : dot n k.c d < 0
    · have h1 := hmin k (List.mem_filter.2 ⟨hk, by simpa using hneg⟩)
      have h2 : k.at n x / -(dot n k.c d) * -(dot n k.c d) = k.at n x := div_mul' (by grind)
      have h3 := Rat.mul_le_mul_of_nonneg_right h1 (c := -(dot n k.c d)) (by grind)
      grind
    · have h1 := hx k hk
      have h2 := Rat.mul_nonneg (Rat.le_of_lt ht) (Rat.not_lt.1 hneg)
      grind
  · rw [Con.lin]; grind
/-- a small step in any such direction -/
theorem step_small {n : Nat} {L : List Con} {x d : Nat → Rat} (hx : FeasC n L x) (hd : ∀ k, k ∈ L → k.at n x = 0 → dot n k.c d = 0) :
    ∃ t, 0 < t ∧ FeasC n L (fun j => x j + t * d j) := by
  by_cases hl : ∃ k, k ∈ L ∧ dot n k.c d < 0
  · obtain ⟨t, h1, h2, _⟩ := step_far hx hd hl
    exact ⟨t, h1, h2⟩
  · refine ⟨1, by decide, fun k hk => ?_⟩
    rw [Con.lin]
    have h1 := hx k hk
    have h2 : 0 ≤ dot n k.c d := Rat.not_lt.1 fun h => hl ⟨k, hk, h⟩
    grind
def Full (n : Nat) (L : List Con) (x : Nat → Rat) : Prop := ∀ d : Nat → Rat, (∀ k, k ∈ L → k.at n x = 0 → dot n k.c d = 0) → ∀ j, j < n → d j = 0
/-- how many are not tight -/
def loose (n : Nat) (L : List Con) (x : Nat → Rat) : Nat := L.countP fun k => decide (k.at n x ≠ 0)
theorem loose_lt {n : Nat} {L : List Con} {x y : Nat → Rat} (h : ∀ k, k ∈ L → k.at n x = 0 → k.at n y = 0) (h1 : ∃ k, k ∈ L ∧ k.at n x ≠ 0 ∧ k.at n y = 0) : loose n L y < loose n L x := by
  unfold loose
  induction L with
  | nil => obtain ⟨k, hk, _⟩ := h1; cases hk
  | cons a L ih =>
    rw [List.countP_cons, List.countP_cons]
    have hle : L.countP (fun k => decide (k.at n y ≠ 0)) ≤ L.countP (fun k => decide (k.at n x ≠ 0)) := by
      refine List.countP_mono_left fun k hk hy => ?_
      simp only [ne_eq, decide_not, Bool.not_eq_true', decide_eq_false_iff_not] at hy ⊢
      exact fun e => hy (h k (List.mem_cons_of_mem _ hk) e)
    have ha := h a List.mem_cons_self
    obtain ⟨k, hk, hk1, hk2⟩ := h1
    rcases List.mem_cons.1 hk with rfl | hk
    · rw [if_neg (by simp [hk2]), if_pos (by simp [hk1])]; omega
    · have h2 := ih (fun k hk => h k (List.mem_cons_of_mem _ hk)) ⟨k, hk, hk1, hk2⟩
      by_cases e : a.at n x = 0
      · rw [if_neg (by simp [ha e]), if_neg (by simp [e])]; omega
      · rw [if_pos (show decide (a.at n x ≠ 0) = true by simp [e])]
        split <;> omega
/-- all unit constraints are among them -/
def Units (n : Nat) (L : List Con) : Prop := ∀ j, j < n → ∃ k, k ∈ L ∧ k.e = 0 ∧ ∀ x, dot n k.c x = x j
theorem vertex {n : Nat} {L : List Con} (hu : Units n L) (o : Nat → Rat) : ∀ (N : Nat) (x : Nat → Rat), loose n L x ≤ N → FeasC n L x → (∀ y, FeasC n L y → dot n o y ≤ dot n o x) →
    ∃ y, FeasC n L y ∧ dot n o y = dot n o x ∧ Full n L y := by
  intro N
  induction N with
  | zero =>
    intro x hN hx _
    refine ⟨x, hx, rfl, fun d hd j hj => ?_⟩
    obtain ⟨k, hk, he, hc⟩ := hu j hj
    rw [← hc d]
    refine hd k hk (Classical.byContradiction fun hne => ?_)
    have : 0 < loose n L x := List.countP_pos_iff.2 ⟨k, hk, by simpa using hne⟩
    omega
  | succ N ih =>
    intro x hN hx ho
    by_cases hF : Full n L x
    · exact ⟨x, hx, rfl, hF⟩
    · obtain ⟨d, hd, j, hj, hdj⟩ : ∃ d, (∀ k, k ∈ L → k.at n x = 0 → dot n k.c d = 0) ∧ ∃ j, j < n ∧ d j ≠ 0 := by
        refine Classical.byContradiction fun hn => hF fun d hd j hj => Classical.byContradiction fun h0 => hn ⟨d, hd, j, hj, h0⟩
      have hneg : ∀ d', (∀ k, k ∈ L → k.at n x = 0 → dot n k.c d' = 0) → d' j < 0 → (∀ k, k ∈ L → k.at n x = 0 → dot n k.c (fun i => -d' i) = 0) → ∃ y, FeasC n L y ∧ dot n o y = dot n o x ∧ Full n L y := by
        intro d' hd' hlt hdn
        obtain ⟨k, hk, he, hc⟩ := hu j hj
        obtain ⟨t, ht, hft, hnew⟩ := step_far hx hd' ⟨k, hk, by rw [hc]; exact hlt⟩
        obtain ⟨s, hs, hfs⟩ := step_small hx hdn
        have h1 := ho _ hft
        have h2 := ho _ hfs
        rw [dot_lin] at h1 h2
        have e1 : dot n o (fun i => -d' i) = -dot n o d' := by
          unfold dot
          rw [← sm_neg]
          exact sm_congr fun i _ => by grind
        rw [e1] at h2
        have h3 : dot n o d' ≤ 0 := by
          refine Rat.not_lt.1 fun hp => ?_
          have := Rat.mul_pos ht hp
          grind
        have h4 : 0 ≤ dot n o d' := by
          refine Rat.not_lt.1 fun hp => ?_
          have := Rat.mul_pos hs (show 0 < -dot n o d' by grind)
          grind
        have h5 : dot n o d' = 0 := Rat.le_antisymm h3 h4
        have e2 : dot n o (fun i => x i + t * d' i) = dot n o x := by rw [dot_lin, h5]; grind
        have hlo := loose_lt (x := x) (y := fun i => x i + t * d' i) (L := L) (n := n) (fun k hk h0 => by rw [Con.lin, h0, hd' k hk h0]; grind) hnew
        obtain ⟨y, hy1, hy2, hy3⟩ := ih _ (by omega) hft (fun z hz => by rw [e2]; exact ho z hz)
        exact ⟨y, hy1, hy2.trans e2, hy3⟩
      have hdn : ∀ k, k ∈ L → k.at n x = 0 → dot n k.c (fun i => -d i) = 0 := fun k hk h0 => by
        have e1 : dot n k.c (fun i => -d i) = -dot n k.c d := by
          unfold dot
          rw [← sm_neg]
          exact sm_congr fun i _ => by grind
        rw [e1, hd k hk h0]; grind
      by_cases hs : d j < 0
      · exact hneg d hd hs hdn
      · refine hneg (fun i => -d i) hdn (by show -d j < 0; grind) ?_
        intro k hk h0
        have e1 : (fun i => - -d i) = d := funext fun i => by grind
        rw [e1]; exact hd k hk h0
/-- the constraints of a problem -/
def Prob.cons (p : Prob) : List Con :=
  (List.range p.n).map (fun j => ⟨fun i => if i = j then 1 else 0, 0⟩) ++
  (List.range p.m).flatMap fun i => (if p.rel i ≠ 3 then [⟨fun j => -p.coef i j, p.right i⟩] else []) ++ (if p.rel i ≠ 1 then [⟨fun j => p.coef i j, -p.right i⟩] else [])
theorem dot_unit {n j : Nat} (hj : j < n) (x : Nat → Rat) : dot n (fun i => if i = j then 1 else 0) x = x j := by
  unfold dot
  rw [← sm_one hj x]
  refine sm_congr fun i _ => ?_
  show (if i = j then (1 : Rat) else 0) * x i = _
  by_cases e : i = j
  · rw [if_pos e, if_pos e]; grind
  · rw [if_neg e, if_neg e]; grind
theorem dot_neg (n : Nat) (c x : Nat → Rat) : dot n (fun j => -c j) x = -dot n c x := by
  unfold dot
  rw [← sm_neg]
  exact sm_congr fun j _ => by grind
theorem Prob.mem_cons {p : Prob} {k : Con} : k ∈ p.cons ↔ (∃ j, j < p.n ∧ k = ⟨fun i => if i = j then 1 else 0, 0⟩) ∨ (∃ i, i < p.m ∧ ((p.rel i ≠ 3 ∧ k = ⟨fun j => -p.coef i j, p.right i⟩) ∨ (p.rel i ≠ 1 ∧ k = ⟨fun j => p.coef i j, -p.right i⟩))) := by
  unfold Prob.cons
  rw [List.mem_append]
  refine or_congr ?_ ?_
  · rw [List.mem_map]
    constructor
    · rintro ⟨j, hj, rfl⟩; exact ⟨j, List.mem_range.1 hj, rfl⟩
    · rintro ⟨j, hj, rfl⟩; exact ⟨j, List.mem_range.2 hj, rfl⟩
  · rw [List.mem_flatMap]
    constructor
    · rintro ⟨i, hi, h⟩
      refine ⟨i, List.mem_range.1 hi, ?_⟩
      rcases List.mem_append.1 h with h | h
      · split at h
        · next hr => exact .inl ⟨hr, List.mem_singleton.1 h⟩
        · cases h
      · split at h
        · next hr => exact .inr ⟨hr, List.mem_singleton.1 h⟩
        · cases h
    · rintro ⟨i, hi, h⟩
      refine ⟨i, List.mem_range.2 hi, List.mem_append.2 ?_⟩
      rcases h with ⟨hr, rfl⟩ | ⟨hr, rfl⟩
      · rw [if_pos hr]; exact .inl (List.mem_singleton.2 rfl)
      · rw [if_pos hr]; exact .inr (List.mem_singleton.2 rfl)
theorem Prob.feasC {p : Prob} (hv : p.Vrel) (x : Nat → Rat) : FeasC p.n p.cons x ↔ p.Feas x := by
  constructor
  · intro h
    refine ⟨fun j hj => ?_, fun i hi => ?_⟩
    · have h1 := h _ (Prob.mem_cons.2 (.inl ⟨j, hj, rfl⟩))
      unfold Con.at at h1
      rw [dot_unit hj] at h1
      grind
    · have a1 : p.rel i ≠ 3 → dot p.n (p.coef i) x ≤ p.right i := fun hr => by
        have h1 := h _ (Prob.mem_cons.2 (.inr ⟨i, hi, .inl ⟨hr, rfl⟩⟩))
        unfold Con.at at h1
        rw [dot_neg] at h1
        grind
      have a2 : p.rel i ≠ 1 → p.right i ≤ dot p.n (p.coef i) x := fun hr => by
        have h1 := h _ (Prob.mem_cons.2 (.inr ⟨i, hi, .inr ⟨hr, rfl⟩⟩))
        unfold Con.at at h1
        have h1 : 0 ≤ dot p.n (p.coef i) x + -p.right i := h1
        grind
      exact ⟨fun e => a1 (by omega), fun e => Rat.le_antisymm (a1 (by omega)) (a2 (by omega)), fun e => a2 (by omega)⟩
  · intro h k hk
    rcases Prob.mem_cons.1 hk with ⟨j, hj, rfl⟩ | ⟨i, hi, ⟨hr, rfl⟩ | ⟨hr, rfl⟩⟩
    · unfold Con.at
      rw [dot_unit hj]
      have := h.1 j hj
      grind
    · unfold Con.at
      rw [dot_neg]
      have h1 := hv i hi
      obtain ⟨g1, g2, g3⟩ := h.2 i hi
      rcases (show p.rel i = 1 ∨ p.rel i = 2 by omega) with e | e
      · have := g1 e; grind
      · have := g2 e; grind
    · unfold Con.at
      have h1 := hv i hi
      obtain ⟨g1, g2, g3⟩ := h.2 i hi
      show 0 ≤ dot p.n (p.coef i) x + -p.right i
      rcases (show p.rel i = 2 ∨ p.rel i = 3 by omega) with e | e
      · have := g2 e; grind
      · have := g3 e; grind
/-- the planes: the rows, then the unit planes -/
def Prob.pln (p : Prob) (i : Nat) : Nat → Rat := if i < p.m then p.coef i else fun j => if j = i - p.m then 1 else 0
def Prob.plr (p : Prob) (i : Nat) : Rat := if i < p.m then p.right i else 0
/-- a feasible point with the greatest objective, at a vertex: only 0 is orthogonal to all planes that it lies on -/
theorem Prob.vertex {p : Prob} (hv : p.Vrel) (o : Nat → Rat) {x : Nat → Rat} (hx : p.Feas x) (ho : ∀ y, p.Feas y → dot p.n o y ≤ dot p.n o x) :
    ∃ y, p.Feas y ∧ dot p.n o y = dot p.n o x ∧ ∀ d : Nat → Rat, (∀ i, i < p.m + p.n → dot p.n (p.pln i) y = p.plr i → dot p.n (p.pln i) d = 0) → ∀ j, j < p.n → d j = 0 := by
  obtain ⟨y, h1, h2, h3⟩ := Lp.vertex (n := p.n) (L := p.cons) (fun j hj => ⟨_, Prob.mem_cons.2 (.inl ⟨j, hj, rfl⟩), rfl, fun x => dot_unit hj x⟩) o _ x (Nat.le_refl _) ((Prob.feasC hv x).2 hx) (fun z hz => ho z ((Prob.feasC hv z).1 hz))
  refine ⟨y, (Prob.feasC hv y).1 h1, h2, fun d hd => h3 d fun k hk h0 => ?_⟩
  rcases Prob.mem_cons.1 hk with ⟨j, hj, rfl⟩ | ⟨i, hi, ⟨hr, rfl⟩ | ⟨hr, rfl⟩⟩
  · have h4 := hd (p.m + j) (by omega)
    unfold Prob.pln Prob.plr at h4
    rw [if_neg (by omega), if_neg (by omega), show p.m + j - p.m = j by omega] at h4
    refine h4 ?_
    unfold Con.at at h0
    have h0 : dot p.n (fun i => if i = j then 1 else 0) y + 0 = 0 := h0
    grind
  · have h4 := hd i (by omega)
    unfold Prob.pln Prob.plr at h4
    rw [if_pos hi, if_pos hi] at h4
    rw [dot_neg, h4 ?_]; · grind
    unfold Con.at at h0
    have h0 : dot p.n (fun j => -p.coef i j) y + p.right i = 0 := h0
    rw [dot_neg] at h0; grind
  · have h4 := hd i (by omega)
    unfold Prob.pln Prob.plr at h4
    rw [if_pos hi, if_pos hi] at h4
    refine h4 ?_
    unfold Con.at at h0
    have h0 : dot p.n (p.coef i) y + -p.right i = 0 := h0
    grind
end Go.Proofs.YtgffcblldebelaaDoor.Lp
