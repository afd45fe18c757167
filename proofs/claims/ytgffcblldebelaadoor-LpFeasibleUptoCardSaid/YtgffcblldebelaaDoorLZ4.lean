/- Plain: the reference of LpSmall answers as the linear program does: the best vertex, the answer. -/
import Derived.Test.YtgffcblldebelaaDoorLZ3
set_option linter.unusedVariables false
set_option linter.unusedSimpArgs false
namespace Go.Proofs.YtgffcblldebelaaDoor.Lp

section
variable {a : Nat → Nat → Rat} {T : Nat → Prop}
def dtt2 (a : Nat → Nat → Rat) (i k : Nat) : Rat := a i 0 * a k 1 - a i 1 * a k 0
def dtt3 (a : Nat → Nat → Rat) (i k l : Nat) : Rat := a i 0 * (a k 1 * a l 2 - a k 2 * a l 1) - a i 1 * (a k 0 * a l 2 - a k 2 * a l 0) + a i 2 * (a k 0 * a l 1 - a k 1 * a l 0)
theorem full1 (h : ∀ d : Nat → Rat, (∀ i, T i → dot 1 (a i) d = 0) → ∀ j, j < 1 → d j = 0) : ∃ i, T i ∧ a i 0 ≠ 0 := by
  refine Classical.byContradiction fun hn => ?_
  have := h (fun _ => 1) (fun i hi => by
    rw [dot1]
    have : a i 0 = 0 := Classical.byContradiction fun h0 => hn ⟨i, hi, h0⟩
    grind) 0 (by omega)
  exact absurd this (by decide)
theorem full2 (h : ∀ d : Nat → Rat, (∀ i, T i → dot 2 (a i) d = 0) → ∀ j, j < 2 → d j = 0) : ∃ i k, T i ∧ T k ∧ dtt2 a i k ≠ 0 := by
  have h1 : ∃ i, T i ∧ (a i 0 ≠ 0 ∨ a i 1 ≠ 0) := by
    refine Classical.byContradiction fun hn => ?_
    have := h (fun _ => 1) (fun i hi => by
      rw [dot2]
      have e0 : a i 0 = 0 := Classical.byContradiction fun h0 => hn ⟨i, hi, .inl h0⟩
      have e1 : a i 1 = 0 := Classical.byContradiction fun h0 => hn ⟨i, hi, .inr h0⟩
      grind) 0 (by omega)
    exact absurd this (by decide)
  obtain ⟨i, hi, h0⟩ := h1
  refine Classical.byContradiction fun hn => ?_
  have h2 := h (fun j => if j = 0 then -a i 1 else a i 0) (fun k hk => by
    rw [dot2]
    have : dtt2 a i k = 0 := Classical.byContradiction fun h3 => hn ⟨i, k, hi, hk, h3⟩
    unfold dtt2 at this
    simp only [if_true, show ¬ (1 = 0) by omega, if_false]
    grind)
  have h3 := h2 0 (by omega)
  have h4 := h2 1 (by omega)
  simp only [if_true, show ¬ (1 = 0) by omega, if_false] at h3 h4
  rcases h0 with h0 | h0
  · exact h0 h4
  · exact h0 (by grind)
theorem full3 (h : ∀ d : Nat → Rat, (∀ i, T i → dot 3 (a i) d = 0) → ∀ j, j < 3 → d j = 0) : ∃ i k l, T i ∧ T k ∧ T l ∧ dtt3 a i k l ≠ 0 := by
  have h1 : ∃ i, T i ∧ (a i 0 ≠ 0 ∨ a i 1 ≠ 0 ∨ a i 2 ≠ 0) := by
    refine Classical.byContradiction fun hn => ?_
    have := h (fun _ => 1) (fun i hi => by
      rw [dot3]
      have e0 : a i 0 = 0 := Classical.byContradiction fun h0 => hn ⟨i, hi, .inl h0⟩
      have e1 : a i 1 = 0 := Classical.byContradiction fun h0 => hn ⟨i, hi, .inr (.inl h0)⟩
      have e2 : a i 2 = 0 := Classical.byContradiction fun h0 => hn ⟨i, hi, .inr (.inr h0)⟩
      grind) 0 (by omega)
    exact absurd this (by decide)
  obtain ⟨i, hi, h0⟩ := h1
  have h2 : ∃ k, T k ∧ (a i 1 * a k 2 - a i 2 * a k 1 ≠ 0 ∨ a i 2 * a k 0 - a i 0 * a k 2 ≠ 0 ∨ a i 0 * a k 1 - a i 1 * a k 0 ≠ 0) := by
    refine Classical.byContradiction fun hn => ?_
    have hz : ∀ k, T k → a i 1 * a k 2 - a i 2 * a k 1 = 0 ∧ a i 2 * a k 0 - a i 0 * a k 2 = 0 ∧ a i 0 * a k 1 - a i 1 * a k 0 = 0 := fun k hk =>
      ⟨Classical.byContradiction fun h3 => hn ⟨k, hk, .inl h3⟩, Classical.byContradiction fun h3 => hn ⟨k, hk, .inr (.inl h3)⟩, Classical.byContradiction fun h3 => hn ⟨k, hk, .inr (.inr h3)⟩⟩
    by_cases hc : a i 0 = 0 ∧ a i 1 = 0
    · obtain ⟨c0, c1⟩ := hc
      have c2 : a i 2 ≠ 0 := by
        rcases h0 with h | h | h
        · exact absurd c0 h
        · exact absurd c1 h
        · exact h
      have h2 := h (fun j => if j = 0 then 1 else 0) (fun k hk => by
        rw [dot3]
        obtain ⟨g1, g2, g3⟩ := hz k hk
        rw [c0] at g2
        have g4 : a i 2 * a k 0 = 0 := by grind
        have g5 : a k 0 = 0 := by
          rcases Rat.mul_eq_zero.1 g4 with h | h
          · exact absurd h c2
          · exact h
        simp only [if_true, show ¬ (1 = 0) by omega, show ¬ (2 = 0) by omega, if_false]
        grind) 0 (by omega)
      exact absurd h2 (by decide)
    · have h2 := h (fun j => if j = 0 then a i 1 else if j = 1 then -a i 0 else 0) (fun k hk => by
        rw [dot3]
        obtain ⟨g1, g2, g3⟩ := hz k hk
        simp only [if_true, show ¬ (1 = 0) by omega, show ¬ (2 = 0) by omega, show ¬ (2 = 1) by omega, if_false]
        grind)
      have h3 := h2 0 (by omega)
      have h4 := h2 1 (by omega)
      simp only [if_true, show ¬ (1 = 0) by omega, if_false] at h3 h4
      exact hc ⟨by grind, h3⟩
  obtain ⟨k, hk, h3⟩ := h2
  refine Classical.byContradiction fun hn => ?_
  have h2 := h (fun j => if j = 0 then a i 1 * a k 2 - a i 2 * a k 1 else if j = 1 then a i 2 * a k 0 - a i 0 * a k 2 else a i 0 * a k 1 - a i 1 * a k 0) (fun l hl => by
    rw [dot3]
    have : dtt3 a i k l = 0 := Classical.byContradiction fun h3 => hn ⟨i, k, l, hi, hk, hl, h3⟩
    unfold dtt3 at this
    simp only [if_true, show ¬ (1 = 0) by omega, show ¬ (2 = 0) by omega, show ¬ (2 = 1) by omega, if_false]
    grind)
  have g0 := h2 0 (by omega)
  have g1 := h2 1 (by omega)
  have g2 := h2 2 (by omega)
  simp only [if_true, show ¬ (1 = 0) by omega, show ¬ (2 = 0) by omega, show ¬ (2 = 1) by omega, if_false] at g0 g1 g2
  rcases h3 with h3 | h3 | h3
  · exact h3 g0
  · exact h3 g1
  · exact h3 g2
theorem dtt2_sw (i k : Nat) : dtt2 a k i = -dtt2 a i k := by unfold dtt2; grind
theorem dtt2_eq (i : Nat) : dtt2 a i i = 0 := by unfold dtt2; grind
theorem dtt3_a (i k l : Nat) : dtt3 a k i l = -dtt3 a i k l := by unfold dtt3; grind
theorem dtt3_b (i k l : Nat) : dtt3 a i l k = -dtt3 a i k l := by unfold dtt3; grind
theorem dtt3_eq (i l : Nat) : dtt3 a i i l = 0 := by unfold dtt3; grind
theorem sort2 (h : ∃ i k, T i ∧ T k ∧ dtt2 a i k ≠ 0) : ∃ i k, i < k ∧ T i ∧ T k ∧ dtt2 a i k ≠ 0 := by
  obtain ⟨i, k, hi, hk, h0⟩ := h
  rcases Nat.lt_trichotomy i k with e | e | e
  · exact ⟨i, k, e, hi, hk, h0⟩
  · subst e; exact absurd (dtt2_eq i) h0
  · exact ⟨k, i, e, hk, hi, by rw [dtt2_sw]; grind⟩
theorem sort3 (h : ∃ i k l, T i ∧ T k ∧ T l ∧ dtt3 a i k l ≠ 0) : ∃ i k l, i < k ∧ k < l ∧ T i ∧ T k ∧ T l ∧ dtt3 a i k l ≠ 0 := by
  have key : ∀ i k l, T i → T k → T l → i < k → dtt3 a i k l ≠ 0 → ∃ i k l, i < k ∧ k < l ∧ T i ∧ T k ∧ T l ∧ dtt3 a i k l ≠ 0 := by
    intro i k l hi hk hl hik h0
    rcases Nat.lt_trichotomy k l with e | e | e
    · exact ⟨i, k, l, hik, e, hi, hk, hl, h0⟩
    · subst e
      have := dtt3_b (a := a) i k k
      exact absurd (by grind) h0
    · have h1 : dtt3 a i l k ≠ 0 := by rw [dtt3_b]; grind
      rcases Nat.lt_trichotomy i l with e' | e' | e'
      · exact ⟨i, l, k, e', e, hi, hl, hk, h1⟩
      · subst e'; exact absurd (dtt3_eq i k) h1
      · exact ⟨l, i, k, e', hik, hl, hi, hk, by rw [dtt3_a]; grind⟩
  obtain ⟨i, k, l, hi, hk, hl, h0⟩ := h
  rcases Nat.lt_trichotomy i k with e | e | e
  · exact key i k l hi hk hl e h0
  · subst e; exact absurd (dtt3_eq i l) h0
  · exact key k i l hk hi hl e (by rw [dtt3_a]; grind)
end
/-- a pick whose planes meet in the vertex -/
theorem RP.pick {p : RP} {M : Nat} (h : p.ok M) (hM : M ≤ 5) {y : Nat → Rat} (hf : ∀ d : Nat → Rat, (∀ i, i < p.pl.toP.m + p.pl.toP.n → dot p.pl.toP.n (p.pl.toP.pln i) y = p.pl.toP.plr i → dot p.pl.toP.n (p.pl.toP.pln i) d = 0) → ∀ j, j < p.pl.toP.n → d j = 0) :
    ∃ q, q ∈ picks p.obj.length (p.rows.length + p.obj.length) ∧ (∀ i ∈ q, dot p.obj.length (p.pl.toP.pln i) y = p.pl.toP.plr i) ∧ meetD p.left q ≠ 0 := by
  rw [p.n, p.m] at hf
  have h1 := h.n1
  have h3 := h.n3
  have h5 := h.m5
  have hpl : ∀ i, i < p.rows.length + p.obj.length → ∀ j, j < p.obj.length → p.pl.toP.pln i j = (((p.left.getD i []).getD j 0 : Int) : Rat) := fun i hi j hj => RP.pln hi hj
  have hz : ∀ z : Int, (z : Rat) ≠ 0 → z ≠ 0 := fun z hz e => hz (by rw [e]; rfl)
  obtain ⟨T, hT⟩ : ∃ T : Nat → Prop, T = fun i => i < p.rows.length + p.obj.length ∧ dot p.obj.length (p.pl.toP.pln i) y = p.pl.toP.plr i := ⟨_, rfl⟩
  have hf' : ∀ d : Nat → Rat, (∀ i, T i → dot p.obj.length (p.pl.toP.pln i) d = 0) → ∀ j, j < p.obj.length → d j = 0 := fun d hd => hf d fun i hi hy => hd i (by rw [hT]; exact ⟨hi, hy⟩)
  have hTi : ∀ i, T i → i < p.rows.length + p.obj.length ∧ dot p.obj.length (p.pl.toP.pln i) y = p.pl.toP.plr i := fun i hi => by rw [hT] at hi; exact hi
  clear hf hT
  rcases (show p.obj.length = 1 ∨ p.obj.length = 2 ∨ p.obj.length = 3 by omega) with e | e | e
  · rw [e] at hf' hpl hTi h1 ⊢
    obtain ⟨i, hi, h0⟩ := full1 hf'
    refine ⟨[i], picks_1 (by omega) (by omega) (hTi i hi).1, fun k hk => ?_, hz _ ?_⟩
    · rw [List.mem_singleton.1 hk]; exact (hTi i hi).2
    · show ((detN 1 [p.left.getD i []] : Int) : Rat) ≠ 0
      rw [det1, ← hpl i (hTi i hi).1 0 (by omega)]; exact h0
  · rw [e] at hf' hpl hTi h1 ⊢
    obtain ⟨i, k, hik, hi, hk, h0⟩ := sort2 (full2 hf')
    refine ⟨[i, k], picks_2 (by omega) (by omega) hik (hTi k hk).1, fun l hl => ?_, hz _ ?_⟩
    · rcases List.mem_cons.1 hl with rfl | hl
      · exact (hTi _ hi).2
      · rw [List.mem_singleton.1 hl]; exact (hTi k hk).2
    · show ((detN 2 [p.left.getD i [], p.left.getD k []] : Int) : Rat) ≠ 0
      unfold dtt2 at h0
      rw [hpl i (hTi i hi).1 0 (by omega), hpl i (hTi i hi).1 1 (by omega), hpl k (hTi k hk).1 0 (by omega), hpl k (hTi k hk).1 1 (by omega)] at h0
      rw [det2]; push_cast; exact h0
  · rw [e] at hf' hpl hTi h1 ⊢
    obtain ⟨i, k, l, hik, hkl, hi, hk, hl, h0⟩ := sort3 (full3 hf')
    refine ⟨[i, k, l], picks_3 (by omega) (by omega) hik hkl (hTi l hl).1, fun m hm => ?_, hz _ ?_⟩
    · rcases List.mem_cons.1 hm with rfl | hm
      · exact (hTi _ hi).2
      · rcases List.mem_cons.1 hm with rfl | hm
        · exact (hTi _ hk).2
        · rw [List.mem_singleton.1 hm]; exact (hTi l hl).2
    · show ((detN 3 [p.left.getD i [], p.left.getD k [], p.left.getD l []] : Int) : Rat) ≠ 0
      unfold dtt3 at h0
      rw [hpl i (hTi i hi).1 0 (by omega), hpl i (hTi i hi).1 1 (by omega), hpl i (hTi i hi).1 2 (by omega), hpl k (hTi k hk).1 0 (by omega), hpl k (hTi k hk).1 1 (by omega), hpl k (hTi k hk).1 2 (by omega), hpl l (hTi l hl).1 0 (by omega), hpl l (hTi l hl).1 1 (by omega), hpl l (hTi l hl).1 2 (by omega)] at h0
      rw [det3]; push_cast; exact h0
/-- what a fold over the picks keeps -/
def RP.Qual (p : RP) (q : List Nat) : Prop := 0 < meetA p.left q ∧ p.feas (meetX p.left p.rhs q) (meetA p.left q) = true
structure RP.Fold (p : RP) (l : List (List Nat)) (s : Int × Int × Bool) : Prop where
  pos : 0 < s.2.1
  no : s.2.2 = false → (∀ q ∈ l, ¬ p.Qual q) ∧ s.1 = 0 ∧ s.2.1 = 1
  yes : s.2.2 = true → ∃ q ∈ l, p.Qual q ∧ s.1 = dotI p.obj (meetX p.left p.rhs q) ∧ s.2.1 = meetA p.left q
  max : ∀ q ∈ l, p.Qual q → dotI p.obj (meetX p.left p.rhs q) * s.2.1 ≤ s.1 * meetA p.left q
theorem cross_le {a b c d e f : Int} (hb : 0 < b) (hd : 0 < d) (hf : 0 < f) (h1 : a * d ≤ c * b) (h2 : c * f ≤ e * d) : a * f ≤ e * b := by
  have h3 := Int.mul_le_mul_of_nonneg_right h1 (Int.le_of_lt hf)
  have h4 := Int.mul_le_mul_of_nonneg_right h2 (Int.le_of_lt hb)
  have h5 : a * f * d ≤ e * b * d := by grind
  exact Int.le_of_mul_le_mul_right h5 hd
theorem RP.Fold.step {p : RP} {l : List (List Nat)} {s : Int × Int × Bool} (h : p.Fold l s) (q : List Nat) : p.Fold (l ++ [q]) (p.step s q) := by
  unfold RP.step
  by_cases hq : p.Qual q
  · have hq' : 0 < meetA p.left q ∧ p.feas (meetX p.left p.rhs q) (meetA p.left q) = true := hq
    rw [if_pos hq']
    by_cases hb : s.2.2 = false ∨ s.1 * meetA p.left q < dotI p.obj (meetX p.left p.rhs q) * s.2.1
    · rw [if_pos hb]
      refine ⟨hq.1, fun e => (by cases e), fun _ => ⟨q, by simp, hq, rfl, rfl⟩, fun r hr hrq => ?_⟩
      rcases List.mem_append.1 hr with hr | hr
      · show dotI p.obj (meetX p.left p.rhs r) * meetA p.left q ≤ dotI p.obj (meetX p.left p.rhs q) * meetA p.left r
        rcases hb with hb | hb
        · exact absurd hrq ((h.no hb).1 r hr)
        · exact cross_le hrq.1 h.pos hq.1 (h.max r hr hrq) (Int.le_of_lt hb)
      · rw [List.mem_singleton.1 hr]; exact Int.le_refl _
    · rw [if_neg hb]
      have hb1 : s.2.2 = true := by
        cases e : s.2.2 with
        | true => rfl
        | false => exact absurd (.inl e) hb
      refine ⟨h.pos, fun e => (by rw [hb1] at e; cases e), fun e => ?_, fun r hr hrq => ?_⟩
      · obtain ⟨r, hr, h1⟩ := h.yes e
        exact ⟨r, List.mem_append_left _ hr, h1⟩
      · rcases List.mem_append.1 hr with hr | hr
        · exact h.max r hr hrq
        · rw [List.mem_singleton.1 hr]
          exact Int.not_lt.1 fun e => hb (.inr e)
  · have hq' : ¬ (0 < meetA p.left q ∧ p.feas (meetX p.left p.rhs q) (meetA p.left q) = true) := hq
    rw [if_neg hq']
    refine ⟨h.pos, fun e => ⟨fun r hr => ?_, (h.no e).2⟩, fun e => ?_, fun r hr hrq => ?_⟩
    · rcases List.mem_append.1 hr with hr | hr
      · exact (h.no e).1 r hr
      · rw [List.mem_singleton.1 hr]; exact hq
    · obtain ⟨r, hr, h1⟩ := h.yes e
      exact ⟨r, List.mem_append_left _ hr, h1⟩
    · rcases List.mem_append.1 hr with hr | hr
      · exact h.max r hr hrq
      · rw [List.mem_singleton.1 hr] at hrq; exact absurd hrq hq
theorem RP.fold0 (p : RP) : p.Fold [] (0, 1, false) := ⟨by show (0 : Int) < 1; omega, fun _ => ⟨fun q hq => (by cases hq), rfl, rfl⟩, fun e => (by cases e), fun q hq => (by cases hq)⟩
theorem RP.foldAll (p : RP) : ∀ (l l0 : List (List Nat)) (s : Int × Int × Bool), p.Fold l0 s → p.Fold (l0 ++ l) (l.foldl p.step s)
  | [], l0, s, h => by rw [List.append_nil]; exact h
  | q :: l, l0, s, h => by
    have := RP.foldAll p l (l0 ++ [q]) _ (h.step q)
    rwa [List.append_assoc, List.singleton_append] at this
theorem RP.best_fold (p : RP) (l : List (List Nat)) : p.Fold l (p.best l) := p.foldAll l [] _ p.fold0
def RP.all (p : RP) : List (List Nat) := picks p.obj.length (p.rows.length + p.obj.length)
theorem RP.obj_dot {p : RP} {xs : List Int} {d : Int} {x : Nat → Rat} (hl : xs.length = p.obj.length) (hx : ∀ j, j < p.obj.length → ((xs.getD j 0 : Int) : Rat) = x j * (d : Rat)) : ((dotI p.obj xs : Int) : Rat) = dot p.pl.toP.n p.pl.toP.obj x * (d : Rat) := by
  rw [dotI_at rfl hl hx, p.n]
  have e : p.pl.toP.obj = fun j => ((p.obj.getD j 0 : Int) : Rat) := funext fun j => castL_get p.obj j
  rw [e]
/-- a vertex that qualifies is a feasible point -/
theorem RP.qual_pt {p : RP} {M : Nat} (h : p.ok M) (hM : M ≤ 5) {q : List Nat} (hq : q ∈ p.all) (hQ : p.Qual q) :
    ∃ x, p.pl.toP.Feas x ∧ ((dotI p.obj (meetX p.left p.rhs q) : Int) : Rat) = dot p.pl.toP.n p.pl.toP.obj x * ((meetA p.left q : Int) : Rat) := by
  obtain ⟨hl, hi⟩ := picks_mem h.n1 h.n3 (by omega) (by have := h.m5; have := h.n3; omega) hq
  have hdq : (0 : Rat) < ((meetA p.left q : Int) : Rat) := Rat.intCast_pos.2 hQ.1
  have hx : ∀ j, j < p.obj.length → (((meetX p.left p.rhs q).getD j 0 : Int) : Rat) = (((meetX p.left p.rhs q).getD j 0 : Int) : Rat) / ((meetA p.left q : Int) : Rat) * ((meetA p.left q : Int) : Rat) := fun j _ => (div_mul' (by grind)).symm
  refine ⟨fun j => (((meetX p.left p.rhs q).getD j 0 : Int) : Rat) / ((meetA p.left q : Int) : Rat), ?_, ?_⟩
  · exact (RP.feas_iff h hQ.1 (by rw [meetX_len, hl]) hx).1 hQ.2
  · exact RP.obj_dot (by rw [meetX_len, hl]) hx
/-- an optimum is found -/
theorem RP.found {p : RP} {M : Nat} (h : p.ok M) (hM : M ≤ 5) (o : Nat → Rat) {x : Nat → Rat} (hx : p.pl.toP.Feas x) (ho : ∀ y, p.pl.toP.Feas y → dot p.pl.toP.n o y ≤ dot p.pl.toP.n o x) :
    ∃ q, q ∈ p.all ∧ p.Qual q ∧ ∃ y, dot p.pl.toP.n o y = dot p.pl.toP.n o x ∧ ((dotI p.obj (meetX p.left p.rhs q) : Int) : Rat) = dot p.pl.toP.n p.pl.toP.obj y * ((meetA p.left q : Int) : Rat) := by
  obtain ⟨y, hy, hyo, hfull⟩ := Prob.vertex (PL.vrel (h.valid (by omega))) o hx ho
  obtain ⟨q, hq, hqy, hdet⟩ := RP.pick h hM hfull
  obtain ⟨hl, hi⟩ := picks_mem h.n1 h.n3 (by omega) (by have := h.m5; have := h.n3; omega) hq
  have hA : 0 < meetA p.left q := by unfold meetA; split <;> omega
  have hxs : ∀ j, j < p.obj.length → (((meetX p.left p.rhs q).getD j 0 : Int) : Rat) = y j * ((meetA p.left q : Int) : Rat) := fun j hj => RP.cramerA h hl hi hqy hj
  exact ⟨q, hq, ⟨hA, (RP.feas_iff h hA (by rw [meetX_len, hl]) hxs).2 hy⟩, y, hyo, RP.obj_dot (by rw [meetX_len, hl]) hxs⟩
theorem int_div_le {a b c d : Int} (hb : 0 < b) (hd : 0 < d) (h : a * d ≤ c * b) : (a : Rat) / (b : Rat) ≤ (c : Rat) / (d : Rat) := by
  have hbq : (0 : Rat) < (b : Rat) := Rat.intCast_pos.2 hb
  have hdq : (0 : Rat) < (d : Rat) := Rat.intCast_pos.2 hd
  have h1 : (a : Rat) * (d : Rat) ≤ (c : Rat) * (b : Rat) := by
    have := Rat.intCast_le_intCast.2 h
    push_cast at this; exact this
  have e1 : (a : Rat) / (b : Rat) * (b : Rat) = a := div_mul' (by grind)
  have e2 : (c : Rat) / (d : Rat) * (d : Rat) = c := div_mul' (by grind)
  refine Rat.not_lt.1 fun hn => ?_
  have h3 := Rat.mul_pos (show 0 < (a : Rat) / (b : Rat) - (c : Rat) / (d : Rat) by grind) (Rat.mul_pos hbq hdq)
  have h4 : ((a : Rat) / (b : Rat) - (c : Rat) / (d : Rat)) * ((b : Rat) * (d : Rat)) = (a : Rat) / (b : Rat) * (b : Rat) * (d : Rat) - (c : Rat) / (d : Rat) * (d : Rat) * (b : Rat) := by grind
  rw [h4, e1, e2] at h3
  grind
/-- the best vertex -/
theorem RP.best_ok {p : RP} {M : Nat} (h : p.ok M) (hM : M ≤ 5) :
    0 < (p.best p.all).2.1 ∧ ((p.best p.all).2.2 = false → (∀ x, ¬ p.pl.toP.Feas x) ∧ (p.best p.all).1 = 0 ∧ (p.best p.all).2.1 = 1) ∧
    ((p.best p.all).2.2 = true → (∃ x, p.pl.toP.Feas x ∧ dot p.pl.toP.n p.pl.toP.obj x = ((p.best p.all).1 : Rat) / ((p.best p.all).2.1 : Rat)) ∧
      ∀ x, p.pl.toP.Feas x → (∀ y, p.pl.toP.Feas y → dot p.pl.toP.n p.pl.toP.obj y ≤ dot p.pl.toP.n p.pl.toP.obj x) → dot p.pl.toP.n p.pl.toP.obj x = ((p.best p.all).1 : Rat) / ((p.best p.all).2.1 : Rat)) := by
  have hF := p.best_fold p.all
  refine ⟨hF.pos, fun e => ⟨fun x hx => ?_, (hF.no e).2⟩, fun e => ?_⟩
  · obtain ⟨q, hq, hQ, _⟩ := RP.found h hM (fun _ => 0) hx (fun y _ => by
      have e0 : ∀ z : Nat → Rat, dot p.pl.toP.n (fun _ => 0) z = 0 := fun z => sm_zero' fun j _ => by grind
      rw [e0, e0]; exact Rat.le_refl)
    exact (hF.no e).1 q hq hQ
  · obtain ⟨q, hq, hQ, e1, e2⟩ := hF.yes e
    have hdq : (0 : Rat) < ((meetA p.left q : Int) : Rat) := Rat.intCast_pos.2 hQ.1
    obtain ⟨x, hx, hxo⟩ := RP.qual_pt h hM hq hQ
    have hval : dot p.pl.toP.n p.pl.toP.obj x = ((p.best p.all).1 : Rat) / ((p.best p.all).2.1 : Rat) := by
      rw [e1, e2, hxo]; grind
    refine ⟨⟨x, hx, hval⟩, fun z hz hzo => ?_⟩
    obtain ⟨r, hr, hR, y, hy1, hy2⟩ := RP.found h hM p.pl.toP.obj hz hzo
    have hrq : (0 : Rat) < ((meetA p.left r : Int) : Rat) := Rat.intCast_pos.2 hR.1
    have h1 := int_div_le hR.1 hF.pos (hF.max r hr hR)
    have h2 : ((dotI p.obj (meetX p.left p.rhs r) : Int) : Rat) / ((meetA p.left r : Int) : Rat) = dot p.pl.toP.n p.pl.toP.obj z := by rw [hy2, hy1]; grind
    rw [h2] at h1
    exact Rat.le_antisymm h1 (by rw [← hval]; exact hzo x hx)
def RR.flat (r : RR) : RR := ⟨r.coef, r.rel, 0⟩
/-- the problem of a direction -/
def RP.grow (p : RP) : RP := ⟨p.obj, p.rows.map RR.flat ++ [⟨List.replicate p.obj.length 1, 1, 1⟩]⟩
def RP.solve (p : RP) : Int × Int × Int :=
  if (p.best p.all).2.2 = true then (if 0 < (p.grow.best p.grow.all).1 then (0, 1, 18) else ((p.best p.all).1, (p.best p.all).2.1, 0)) else (0, 1, 17)
theorem RP.grow_ok {p : RP} (h : p.ok 4) : p.grow.ok 5 := by
  refine ⟨h.n1, h.n3, by show (p.rows.map RR.flat ++ [(⟨List.replicate p.obj.length 1, 1, 1⟩ : RR)]).length ≤ 5; rw [List.length_append, List.length_map, List.length_singleton]; have := h.m5; omega, fun r hr => ?_⟩
  rcases List.mem_append.1 hr with hr | hr
  · obtain ⟨s, hs, rfl⟩ := List.mem_map.1 hr
    exact h.row s hs
  · rw [List.mem_singleton.1 hr]
    exact ⟨by show (List.replicate _ _).length = _; rw [List.length_replicate]; rfl, by show 1 ≤ 1 ∧ 1 ≤ 3; omega⟩
theorem grow_row {p : RP} {i : Nat} (hi : i < p.rows.length) : p.grow.rows.getD i ⟨[], 0, 0⟩ = ⟨(p.rows.getD i ⟨[], 0, 0⟩).coef, (p.rows.getD i ⟨[], 0, 0⟩).rel, 0⟩ := by
  show (p.rows.map RR.flat ++ [(⟨List.replicate p.obj.length 1, 1, 1⟩ : RR)]).getD i _ = _
  rw [List.getD_eq_getElem?_getD, List.getElem?_append_left (by simpa using hi), List.getElem?_map, List.getD_eq_getElem?_getD, List.getElem?_eq_getElem hi]; rfl
theorem grow_last (p : RP) : p.grow.rows.getD p.rows.length ⟨[], 0, 0⟩ = ⟨List.replicate p.obj.length 1, 1, 1⟩ := by
  show (p.rows.map RR.flat ++ [(⟨List.replicate p.obj.length 1, 1, 1⟩ : RR)]).getD _ _ = _
  rw [List.getD_eq_getElem?_getD, List.getElem?_append_right (by simp), List.length_map, Nat.sub_self]; rfl
theorem grow_feas {p : RP} (h : p.ok 4) (x : Nat → Rat) : p.grow.pl.toP.Feas x ↔ (∀ j, j < p.obj.length → 0 ≤ x j) ∧ (∀ i, i < p.rows.length → Holds (p.pl.toP.rel i) (dot p.obj.length (p.pl.toP.coef i) x) 0) ∧ dot p.obj.length (fun _ => 1) x ≤ 1 := by
  unfold Prob.Feas
  rw [p.grow.n, p.grow.m]
  have hl : p.grow.rows.length = p.rows.length + 1 := by show (p.rows.map RR.flat ++ [(⟨List.replicate p.obj.length 1, 1, 1⟩ : RR)]).length = _; simp
  have hr1 : ∀ i, i < p.rows.length → p.grow.pl.toP.rel i = p.pl.toP.rel i ∧ p.grow.pl.toP.coef i = p.pl.toP.coef i ∧ p.grow.pl.toP.right i = 0 := fun i hi => by
    refine ⟨?_, funext fun j => ?_, ?_⟩
    · show (p.grow.pl.rows.getD i RL.zero).rel = (p.pl.rows.getD i RL.zero).rel
      rw [p.grow.rowD, p.rowD, grow_row hi]; rfl
    · rw [RP.coef, RP.coef, grow_row hi]
    · show (p.grow.pl.rows.getD i RL.zero).right = 0
      rw [p.grow.rowD, grow_row hi]; rfl
  have hr2 : p.grow.pl.toP.rel p.rows.length = 1 ∧ (∀ j, j < p.obj.length → p.grow.pl.toP.coef p.rows.length j = 1) ∧ p.grow.pl.toP.right p.rows.length = 1 := by
    refine ⟨?_, fun j hj => ?_, ?_⟩
    · show (p.grow.pl.rows.getD _ RL.zero).rel = 1
      rw [p.grow.rowD, grow_last]; rfl
    · rw [RP.coef, grow_last]
      show (((List.replicate p.obj.length (1 : Int)).getD j 0 : Int) : Rat) = 1
      rw [List.getD_eq_getElem?_getD, List.getElem?_replicate, if_pos hj]; rfl
    · show (p.grow.pl.rows.getD _ RL.zero).right = 1
      rw [p.grow.rowD, grow_last]; rfl
  have hd : dot p.obj.length (p.grow.pl.toP.coef p.rows.length) x = dot p.obj.length (fun _ => 1) x := sm_congr fun j hj => by rw [hr2.2.1 j hj]
  have ho : p.grow.obj.length = p.obj.length := rfl
  rw [hl, ho]
  refine and_congr Iff.rfl ⟨fun h1 => ⟨fun i hi => ?_, ?_⟩, fun h1 i hi => ?_⟩
  · have h2 := h1 i (by omega)
    rw [(hr1 i hi).1, (hr1 i hi).2.1, (hr1 i hi).2.2] at h2; exact h2
  · have h2 := h1 p.rows.length (by omega)
    rw [hr2.1, hr2.2.2, hd] at h2
    exact h2.1 rfl
  · by_cases e : i < p.rows.length
    · rw [(hr1 i e).1, (hr1 i e).2.1, (hr1 i e).2.2]; exact h1.1 i e
    · obtain rfl : i = p.rows.length := by omega
      rw [hr2.1, hr2.2.2, hd]
      exact ⟨fun _ => h1.2, fun e => absurd e (by omega), fun e => absurd e (by omega)⟩
/-- the answer -/
theorem RP.solve_ok {p : RP} (h : p.ok 4) : 0 < p.solve.2.1 ∧ p.solve.2.2 = p.pl.err ∧ (p.solve.1 : Rat) / (p.solve.2.1 : Rat) = p.pl.val := by
  have hv := PL.vrel (h.valid (by omega))
  have hIs : Is p.pl.toP.V p.pl.err p.pl.val := Prob.is hv
  obtain ⟨b1, b2, b3⟩ := RP.best_ok h (by omega)
  unfold RP.solve
  cases hok : (p.best p.all).2.2 with
  | false =>
    rw [if_neg (by simp)]
    obtain ⟨e1, e2⟩ := hIs.inf (fun v ⟨x, hx, _⟩ => (b2 hok).1 x hx)
    refine ⟨by show (0 : Int) < 1; omega, e1.symm, ?_⟩
    rw [e2]
    show ((0 : Int) : Rat) / ((1 : Int) : Rat) = 0
    decide +kernel
  | true =>
    rw [if_pos rfl]
    obtain ⟨⟨x0, hx0, hx0v⟩, b4⟩ := b3 hok
    have hg := RP.grow_ok h
    have hgv := PL.vrel (hg.valid (by omega))
    have hzero : p.grow.pl.toP.Feas (fun _ => 0) := (grow_feas h _).2 ⟨fun _ _ => Rat.le_refl, fun i _ => by
      have e0 : ∀ (n : Nat) (z : Nat → Rat), dot n z (fun _ => 0) = 0 := fun n z => sm_zero' fun j _ => by grind
      rw [e0]
      exact ⟨fun _ => Rat.le_refl, fun _ => rfl, fun _ => Rat.le_refl⟩, by
      have e0 : ∀ (n : Nat) (z : Nat → Rat), dot n z (fun _ => 0) = 0 := fun n z => sm_zero' fun j _ => by grind
      rw [e0]; decide⟩
    obtain ⟨g1, g2, g3⟩ := RP.best_ok hg (by omega)
    have hgok : (p.grow.best p.grow.all).2.2 = true := by
      cases e : (p.grow.best p.grow.all).2.2 with
      | true => rfl
      | false => exact absurd hzero ((g2 e).1 _)
    obtain ⟨⟨d, hd, hdv⟩, g4⟩ := g3 hgok
    have hgq : (0 : Rat) < ((p.grow.best p.grow.all).2.1 : Rat) := Rat.intCast_pos.2 g1
    have hobj : p.grow.pl.toP.obj = p.pl.toP.obj := rfl
    have hgn : p.grow.pl.toP.n = p.obj.length := p.grow.n
    by_cases hpos : 0 < (p.grow.best p.grow.all).1
    · rw [if_pos hpos]
      have hdpos : 0 < dot p.obj.length p.pl.toP.obj d := by
        rw [← hgn, ← hobj, hdv, Rat.div_def]
        exact Rat.mul_pos (Rat.intCast_pos.2 hpos) (Rat.inv_pos.2 hgq)
      obtain ⟨d1, d2, -⟩ := (grow_feas h d).1 hd
      obtain ⟨e1, e2⟩ := hIs.unb (fun M => by
        obtain ⟨t, ht0, ht⟩ : ∃ t : Rat, 0 ≤ t ∧ M ≤ dot p.obj.length p.pl.toP.obj x0 + t * dot p.obj.length p.pl.toP.obj d := by
          by_cases hM : M ≤ dot p.obj.length p.pl.toP.obj x0
          · exact ⟨0, Rat.le_refl, by grind⟩
          · refine ⟨(M - dot p.obj.length p.pl.toP.obj x0) / dot p.obj.length p.pl.toP.obj d, div_nonneg' (by grind) hdpos, ?_⟩
            rw [div_mul' (by grind)]; grind
        refine ⟨_, ⟨fun j => x0 j + t * d j, ⟨fun j hj => ?_, fun i hi => ?_⟩, rfl⟩, ?_⟩
        · have h1 := hx0.1 j hj
          rw [p.n] at hj
          have h2 := Rat.mul_nonneg ht0 (d1 j hj)
          grind
        · have h1 := hx0.2 i hi
          rw [p.m] at hi
          have h2 := d2 i hi
          rw [dot_lin]
          rw [p.n] at h1 ⊢
          refine ⟨fun e => ?_, fun e => ?_, fun e => ?_⟩
          · have := h1.1 e
            have h3 := Rat.mul_nonneg ht0 (show 0 ≤ -dot p.obj.length (p.pl.toP.coef i) d by have := h2.1 e; grind)
            grind
          · have := h1.2.1 e
            have := h2.2.1 e
            grind
          · have := h1.2.2 e
            have h3 := Rat.mul_nonneg ht0 (h2.2.2 e)
            grind
        · rw [dot_lin, p.n]; exact ht)
      refine ⟨by show (0 : Int) < 1; omega, e1.symm, ?_⟩
      rw [e2]
      show ((0 : Int) : Rat) / ((1 : Int) : Rat) = 0
      decide +kernel
    · rw [if_neg hpos]
      -- the problem of a direction has the optimum 0
      have hIg : Is p.grow.pl.toP.V p.grow.pl.err p.grow.pl.val := Prob.is hgv
      have hne : p.pl.err ≠ 18 := by
        intro e18
        have hans := Prob.sol_ans hgv
        have hgle : ∀ y, p.grow.pl.toP.Feas y → (∀ z, p.grow.pl.toP.Feas z → dot p.grow.pl.toP.n p.grow.pl.toP.obj z ≤ dot p.grow.pl.toP.n p.grow.pl.toP.obj y) → dot p.grow.pl.toP.n p.grow.pl.toP.obj y ≤ 0 := fun y hy hyo => by
          rw [g4 y hy hyo, Rat.div_def]
          have h1 : (0 : Rat) ≤ -((p.grow.best p.grow.all).1 : Rat) := by
            have := Rat.intCast_le_intCast.2 (Int.not_lt.1 hpos)
            have e : ((0 : Int) : Rat) = 0 := rfl
            grind
          have h2 := Rat.mul_nonneg h1 (Rat.le_of_lt (Rat.inv_pos.2 hgq))
          grind
        cases es : p.grow.pl.toP.sol with
        | inf y => rw [es] at hans; exact Prob.Refutes.none hgv hans hzero
        | unb =>
          rw [es] at hans
          -- the coordinates are bounded by 1
          obtain ⟨z, hz, hzM⟩ := hans (1 + sm p.obj.length (fun j => if 0 ≤ p.pl.toP.obj j then p.pl.toP.obj j else 0))
          obtain ⟨z1, -, z3⟩ := (grow_feas h z).1 hz
          have hz1 : ∀ j, j < p.obj.length → z j ≤ 1 := fun j hj => by
            have h1 : z j ≤ dot p.obj.length (fun _ => 1) z := by
              unfold dot
              rw [sm_apart hj]
              have := sm_nonneg (n := p.obj.length) (f := fun i => if i = j then 0 else 1 * z i) fun i hi => by
                show 0 ≤ if i = j then 0 else 1 * z i
                split
                · exact Rat.le_refl
                · have := z1 i hi; grind
              grind
            grind
          have h2 : dot p.obj.length p.pl.toP.obj z ≤ sm p.obj.length (fun j => if 0 ≤ p.pl.toP.obj j then p.pl.toP.obj j else 0) := sm_le fun j hj => by
            have a1 := z1 j hj
            have a2 := hz1 j hj
            split
            · next h0 =>
              have := Rat.mul_nonneg h0 (show 0 ≤ 1 - z j by grind)
              grind
            · next h0 =>
              have := Rat.mul_nonneg (show 0 ≤ -p.pl.toP.obj j by grind) a1
              grind
          rw [hgn, hobj] at hzM
          grind
        | opt zo xo yo =>
          rw [es] at hans
          obtain ⟨o1, o2, o3⟩ := hans
          have hmax : ∀ z, p.grow.pl.toP.Feas z → dot p.grow.pl.toP.n p.grow.pl.toP.obj z ≤ dot p.grow.pl.toP.n p.grow.pl.toP.obj xo := fun z hz => by rw [o2]; exact o3.bound hgv hz
          have hzo : zo ≤ 0 := by rw [← o2]; exact hgle xo o1 hmax
          obtain ⟨s1, s2, s3⟩ := o3
          have hl : p.grow.pl.toP.m = p.rows.length + 1 := by rw [p.grow.m]; show (p.rows.map RR.flat ++ [(⟨List.replicate p.obj.length 1, 1, 1⟩ : RR)]).length = _; simp
          have hr1 : ∀ i, i < p.rows.length → p.grow.pl.toP.rel i = p.pl.toP.rel i ∧ p.grow.pl.toP.coef i = p.pl.toP.coef i ∧ p.grow.pl.toP.right i = 0 := fun i hi => by
            refine ⟨?_, funext fun j => ?_, ?_⟩
            · show (p.grow.pl.rows.getD i RL.zero).rel = (p.pl.rows.getD i RL.zero).rel
              rw [p.grow.rowD, p.rowD, grow_row hi]; rfl
            · rw [RP.coef, RP.coef, grow_row hi]
            · show (p.grow.pl.rows.getD i RL.zero).right = 0
              rw [p.grow.rowD, grow_row hi]; rfl
          have hlr : p.grow.pl.toP.rel p.rows.length = 1 ∧ p.grow.pl.toP.right p.rows.length = 1 ∧ ∀ j, j < p.obj.length → p.grow.pl.toP.coef p.rows.length j = 1 := by
            refine ⟨?_, ?_, fun j hj => ?_⟩
            · show (p.grow.pl.rows.getD _ RL.zero).rel = 1
              rw [p.grow.rowD, grow_last]; rfl
            · show (p.grow.pl.rows.getD _ RL.zero).right = 1
              rw [p.grow.rowD, grow_last]; rfl
            · rw [RP.coef, grow_last]
              show (((List.replicate p.obj.length (1 : Int)).getD j 0 : Int) : Rat) = 1
              rw [List.getD_eq_getElem?_getD, List.getElem?_replicate, if_pos hj]; rfl
          have hy0 : yo p.rows.length = zo := by
            rw [← s3]
            unfold Prob.rhs
            rw [hl]
            show _ = sm p.rows.length _ + yo p.rows.length * p.grow.pl.toP.right p.rows.length
            rw [hlr.2.1, sm_zero' fun i hi => by rw [(hr1 i hi).2.2]; grind]; grind
          have hyp : 0 ≤ yo p.rows.length := (s1 p.rows.length (by omega)).1 hlr.1
          have hy00 : yo p.rows.length = 0 := by grind
          have hsgn : p.pl.toP.Sgn yo := fun i hi => by
            rw [p.m] at hi
            have h1 := s1 i (by omega)
            rw [(hr1 i hi).1] at h1; exact h1
          have hleft : ∀ j, j < p.pl.toP.n → p.pl.toP.obj j ≤ p.pl.toP.left yo j := fun j hj => by
            have h1 := s2 j (by rw [hgn]; rw [p.n] at hj; exact hj)
            unfold Prob.left at h1 ⊢
            rw [hl] at h1
            have h1 : p.pl.toP.obj j ≤ sm p.rows.length (fun i => yo i * p.grow.pl.toP.coef i j) + yo p.rows.length * p.grow.pl.toP.coef p.rows.length j := h1
            rw [hy00, sm_congr (g := fun i => yo i * p.pl.toP.coef i j) fun i hi => by rw [(hr1 i hi).2.1]] at h1
            rw [p.m]; grind
          have hb : ∀ x, p.pl.toP.Feas x → dot p.pl.toP.n p.pl.toP.obj x ≤ p.pl.toP.rhs yo := fun x hx => Prob.Proves.bound hv ⟨hsgn, hleft, rfl⟩ hx
          rcases hIs with ⟨e, _⟩ | ⟨e, _⟩ | ⟨_, _, hu⟩
          · omega
          · omega
          · obtain ⟨v, ⟨x, hx, rfl⟩, hM⟩ := hu (p.pl.toP.rhs yo + 1)
            have := hb x hx
            grind
      rcases hIs with ⟨e, ⟨x, hx, hxv⟩, hm⟩ | ⟨e, _, hn⟩ | ⟨e, _⟩
      · refine ⟨b1, e.symm, ?_⟩
        have := b4 x hx (fun y hy => by rw [hxv]; exact hm _ ⟨y, hy, rfl⟩)
        rw [← hxv]; exact this.symm
      · exact absurd ⟨x0, hx0, rfl⟩ (hn _)
      · exact absurd e hne
end Go.Proofs.YtgffcblldebelaaDoor.Lp
