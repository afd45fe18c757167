/- Plain: rows scaled, rows and columns exchanged: what becomes of the values. -/
import Derived.Test.YtgffcblldebelaaDoorLJ
set_option linter.unusedVariables false
set_option linter.unusedSimpArgs false
namespace Go.Proofs.YtgffcblldebelaaDoor.Lp

/-- the objective by a factor; the first i rows by a factor, reversed where asked -/
def scP (p : Prob) (c : Rat) (b : Nat → Bool) (i : Nat) : Prob :=
  { p with obj := fun j => p.obj j * c, coef := fun r => if r < i then (fun j => p.coef r j * (if b r = true then -c else c)) else p.coef r, rel := fun r => if r < i then (if b r = true then 4 - p.rel r else p.rel r) else p.rel r, right := fun r => if r < i then p.right r * (if b r = true then -c else c) else p.right r }
theorem scP_coef (p : Prob) (c : Rat) (b : Nat → Bool) (i : Nat) : (scP p c b i).coef i = p.coef i := if_neg (Nat.lt_irrefl i)
theorem scP_rel (p : Prob) (c : Rat) (b : Nat → Bool) (i : Nat) : (scP p c b i).rel i = p.rel i := if_neg (Nat.lt_irrefl i)
theorem scP_right (p : Prob) (c : Rat) (b : Nat → Bool) (i : Nat) : (scP p c b i).right i = p.right i := if_neg (Nat.lt_irrefl i)
theorem upto_step {α : Type} (i r : Nat) (x y : α) : (if r = i then x else if r < i then x else y) = if r < i + 1 then x else y := by
  by_cases e : r = i
  · rw [if_pos e, if_pos (by omega)]
  · rw [if_neg e]
    by_cases h : r < i
    · rw [if_pos h, if_pos (by omega)]
    · rw [if_neg h, if_neg (by omega)]
theorem upto_step' {α : Type} (i : Nat) (f g : Nat → α) (r : Nat) : (if r = i then f i else if r < i then f r else g r) = if r < i + 1 then f r else g r := by
  by_cases e : r = i
  · subst e; rw [if_pos rfl, if_pos (by omega)]
  · rw [if_neg e]
    by_cases h : r < i
    · rw [if_pos h, if_pos (by omega)]
    · rw [if_neg h, if_neg (by omega)]
/-- one row more -/
theorem scP_step (p : Prob) (c : Rat) (b : Nat → Bool) (i : Nat) :
    { scP p c b i with rel := fun r => if r = i then (if b i = true then 4 - p.rel i else p.rel i) else (scP p c b i).rel r, coef := fun r => if r = i then (fun j => p.coef i j * (if b i = true then -c else c)) else (scP p c b i).coef r, right := fun r => if r = i then p.right i * (if b i = true then -c else c) else (scP p c b i).right r } = scP p c b (i + 1) := by
  exact congr (congr (congrArg (Prob.mk p.n p.m (fun j => p.obj j * c) p.len) (funext (upto_step' i (fun r j => p.coef r j * (if b r = true then -c else c)) p.coef))) (funext (upto_step' i (fun r => if b r = true then 4 - p.rel r else p.rel r) p.rel))) (funext (upto_step' i (fun r => p.right r * (if b r = true then -c else c)) p.right))
theorem dot_scale (n : Nat) (a x : Nat → Rat) (c : Rat) : dot n (fun j => a j * c) x = dot n a x * c := by
  unfold dot
  rw [Rat.mul_comm, ← sm_mul]
  exact sm_congr fun j _ => by grind
theorem mul_cancel_right' {a b c : Rat} (hc : c ≠ 0) (h : a * c = b * c) : a = b := by
  have h1 : a * c / c = b * c / c := by rw [h]
  rwa [Rat.mul_div_cancel hc, Rat.mul_div_cancel hc] at h1
theorem scP_V {p : Prob} {c : Rat} {b : Nat → Bool} (hc : 0 < c) (hv : p.Vrel) (v : Rat) : p.V v ↔ (scP p c b p.m).V (v * c) := by
  have hF : ∀ x, (scP p c b p.m).Feas x ↔ p.Feas x := fun x => by
    have key : ∀ i, i < p.m → (Holds ((scP p c b p.m).rel i) (dot (scP p c b p.m).n ((scP p c b p.m).coef i) x) ((scP p c b p.m).right i) ↔ Holds (p.rel i) (dot p.n (p.coef i) x) (p.right i)) := fun i hi => by
      have e1 : (scP p c b p.m).coef i = fun j => p.coef i j * (if b i = true then -c else c) := if_pos hi
      have e2 : (scP p c b p.m).rel i = if b i = true then 4 - p.rel i else p.rel i := if_pos hi
      have e3 : (scP p c b p.m).right i = p.right i * (if b i = true then -c else c) := if_pos hi
      have e4 : dot (scP p c b p.m).n = dot p.n := rfl
      have key : Holds (if b i = true then 4 - p.rel i else p.rel i) (dot p.n (p.coef i) x * (if b i = true then -c else c)) (p.right i * (if b i = true then -c else c)) ↔ Holds (p.rel i) (dot p.n (p.coef i) x) (p.right i) := by
        cases b i with
        | true =>
          simp only [if_true]
          rw [show dot p.n (p.coef i) x * -c = -(dot p.n (p.coef i) x * c) by grind, show p.right i * -c = -(p.right i * c) by grind]
          exact (Holds.neg (hv i hi)).trans (Holds.pos hc)
        | false => exact Holds.pos hc
      rw [e1, e2, e3, e4, dot_scale, key]
    exact and_congr Iff.rfl ⟨fun h i hi => (key i hi).1 (h i hi), fun h i hi => (key i hi).2 (h i hi)⟩
  constructor
  · rintro ⟨x, h1, rfl⟩
    exact ⟨x, (hF x).2 h1, dot_scale _ _ _ _⟩
  · rintro ⟨x, h1, h2⟩
    refine ⟨x, (hF x).1 h1, ?_⟩
    have h3 : dot p.n p.obj x * c = v * c := (dot_scale _ _ _ _).symm.trans h2
    exact mul_cancel_right' (by grind) h3
theorem scP_vrel {p : Prob} {c : Rat} {b : Nat → Bool} {i : Nat} (hv : p.Vrel) : (scP p c b i).Vrel := by
  intro r hr
  have h := hv r hr
  show 1 ≤ (if r < i then (if b r = true then 4 - p.rel r else p.rel r) else p.rel r) ∧ (if r < i then (if b r = true then 4 - p.rel r else p.rel r) else p.rel r) ≤ 3
  split
  · split
    · omega
    · exact h
  · exact h

/-- the rows in another order -/
def Prob.perm (p : Prob) (s : Nat → Nat) : Prob := { p with len := fun i => p.len (s i), coef := fun i => p.coef (s i), rel := fun i => p.rel (s i), right := fun i => p.right (s i) }
/-- two columns exchanged: in the objective and in the first t rows -/
def cpP (p : Prob) (i k t : Nat) : Prob := { p with obj := fun j => p.obj (tr i k j), coef := fun r => if r < t then (fun j => p.coef r (tr i k j)) else p.coef r }
theorem cpP_step (p : Prob) (i k t : Nat) : { cpP p i k t with coef := fun r => if r = t then (fun j => p.coef t (tr i k j)) else (cpP p i k t).coef r } = cpP p i k (t + 1) := by
  exact congrArg (fun f => Prob.mk p.n p.m (fun j => p.obj (tr i k j)) p.len f p.rel p.right) (funext (upto_step' t (fun r j => p.coef r (tr i k j)) p.coef))
theorem dot_tr {n i k : Nat} (hi : i < n) (hk : k < n) (a x : Nat → Rat) : dot n (fun j => a (tr i k j)) x = dot n a (fun j => x (tr i k j)) := by
  unfold dot
  rw [← sm_tr hi hk (fun j => a j * x (tr i k j))]
  exact sm_congr fun j _ => by rw [tr_tr]
theorem perm_feas {p : Prob} {s : Nat → Nat} (hs : ∀ i, i < p.m → s i < p.m) (hss : ∀ i, i < p.m → s (s i) = i) (x : Nat → Rat) : (p.perm s).Feas x ↔ p.Feas x := by
  refine and_congr Iff.rfl ⟨fun h i hi => ?_, fun h i hi => h (s i) (hs i hi)⟩
  have h1 := h (s i) (hs i hi)
  have h2 : Holds (p.rel (s (s i))) (dot p.n (p.coef (s (s i))) x) (p.right (s (s i))) := h1
  rw [hss i hi] at h2
  exact h2
theorem cpP_V {p : Prob} {i k : Nat} (hi : i < p.n) (hk : k < p.n) (v : Rat) : (cpP p i k p.m).V v ↔ p.V v := by
  have hF : ∀ x, (cpP p i k p.m).Feas x ↔ p.Feas (fun j => x (tr i k j)) := fun x => by
    refine and_congr ⟨fun h j hj => h _ (tr_lt hi hk hj), fun h j hj => ?_⟩ ⟨fun h r hr => ?_, fun h r hr => ?_⟩
    · have h1 : 0 ≤ x (tr i k (tr i k j)) := h _ (tr_lt hi hk hj)
      rwa [tr_tr] at h1
    · have h := h r hr
      have e1 : (cpP p i k p.m).coef r = fun j => p.coef r (tr i k j) := if_pos hr
      rw [e1] at h
      rw [← dot_tr hi hk]; exact h
    · have h := h r hr
      have e1 : (cpP p i k p.m).coef r = fun j => p.coef r (tr i k j) := if_pos hr
      rw [e1]
      rw [← dot_tr hi hk] at h; exact h
  constructor
  · rintro ⟨x, h1, rfl⟩
    exact ⟨_, (hF x).1 h1, (dot_tr hi hk p.obj x).symm⟩
  · rintro ⟨x, h1, rfl⟩
    refine ⟨fun j => x (tr i k j), (hF _).2 ?_, ?_⟩
    · simpa only [tr_tr] using h1
    · show dot p.n (fun j => p.obj (tr i k j)) (fun j => x (tr i k j)) = _
      rw [dot_tr hi hk]
      simp only [tr_tr]
theorem permutes_V {p : Prob} {s : Nat → Nat} {i k : Nat} (hs : ∀ i, i < p.m → s i < p.m) (hss : ∀ i, i < p.m → s (s i) = i) (hi : i < p.n) (hk : k < p.n) (v : Rat) : (cpP (p.perm s) i k p.m).V v ↔ p.V v := by
  refine (cpP_V (p := p.perm s) hi hk v).trans ?_
  exact exists_congr fun x => and_congr (perm_feas hs hss x) Iff.rfl
theorem permutes_vrel {p : Prob} {s : Nat → Nat} {i k t : Nat} (hs : ∀ i, i < p.m → s i < p.m) (hv : p.Vrel) : (cpP (p.perm s) i k t).Vrel := fun r hr => hv (s r) (hs r hr)
end Go.Proofs.YtgffcblldebelaaDoor.Lp
