/- Plain: sums over an initial segment of the natural numbers. Plain: tableaux. A canonical tableau (R, C, b) of the system A with the unit columns u and the costs D; pivots keep it; it is d -/
import Derived.Below
set_option linter.unusedVariables false
set_option linter.unusedSimpArgs false
namespace Go.Proofs.YtljncdcjkdgkeaaGreatDoor.Lp
def sm : Nat → (Nat → Rat) → Rat
 | 0, _ => 0
 | n + 1, f => sm n f + f n
theorem que {n : Nat} {f g : Nat → Rat} (h : ∀ j, j < n → f j = g j) : sm n f = sm n g := by
 induction n with
 | zero => rfl
 | succ n ih =>
   show sm n f + f n = sm n g + g n
   rw [ih (fun j hj => h j (by omega)), h n (by omega)]
theorem qqb (n : Nat) (f g : Nat → Rat) : sm n (fun j => f j + g j) = sm n f + sm n g := by
 induction n with
 | zero => exact (Rat.add_zero 0).symm
 | succ n ih =>
   show sm n (fun j => f j + g j) + (f n + g n) = (sm n f + f n) + (sm n g + g n)
   rw [ih]; grind
theorem qb9 (n : Nat) (f g : Nat → Rat) : sm n (fun j => f j - g j) = sm n f - sm n g := by
 induction n with
 | zero => show (0 : Rat) = 0 - 0; grind
 | succ n ih =>
   show sm n (fun j => f j - g j) + (f n - g n) = (sm n f + f n) - (sm n g + g n)
   rw [ih]; grind
theorem q1q (n : Nat) (c : Rat) (f : Nat → Rat) : sm n (fun j => c * f j) = c * sm n f := by
 induction n with
 | zero => exact (Rat.mul_zero c).symm
 | succ n ih =>
   show sm n (fun j => c * f j) + c * f n = c * (sm n f + f n)
   rw [ih]; grind
theorem qht (n : Nat) (f : Nat → Rat) : sm n (fun j => -f j) = -sm n f := by
 induction n with
 | zero => show (0 : Rat) = -0; grind
 | succ n ih =>
   show sm n (fun j => -f j) + -f n = -(sm n f + f n)
   rw [ih]; grind
theorem qkf (n : Nat) : sm n (fun _ => 0) = 0 := by
 induction n with
 | zero => rfl
 | succ n ih =>
   show sm n (fun _ => 0) + 0 = 0
   rw [ih]; exact Rat.add_zero 0
theorem qr4 {n : Nat} {f : Nat → Rat} (h : ∀ j, j < n → f j = 0) : sm n f = 0 := (que h).trans (qkf n)
theorem qds (m n : Nat) (f : Nat → Nat → Rat) : sm m (fun i => sm n (fun j => f i j)) = sm n (fun j => sm m (fun i => f i j)) := by
 induction m with
 | zero => exact (qkf n).symm
 | succ m ih =>
   show sm m (fun i => sm n (fun j => f i j)) + sm n (fun j => f m j) = sm n (fun j => sm m (fun i => f i j) + f m j)
   rw [ih, qqb]
theorem q13 {n k : Nat} (h : k < n) (f : Nat → Rat) : sm n (fun j => if j = k then f j else 0) = f k := by
 induction n with
 | zero => omega
 | succ n ih =>
   show sm n (fun j => if j = k then f j else 0) + (if n = k then f n else 0) = f k
   by_cases e : n = k
   ·subst e
    rw [if_pos rfl, qr4 (fun j hj => if_neg (by omega))]; grind
   ·rw [if_neg e, ih (by omega)]; grind
theorem qfn {n k : Nat} {f : Nat → Rat} (h : k < n) (h0 : ∀ j, j < n → j ≠ k → f j = 0) : sm n f = f k := by
 rw [← q13 h f]
 refine que fun j hj => ?_
 by_cases e : j = k
 ·rw [if_pos e]
 ·rw [if_neg e, h0 j hj e]
theorem q5g {n k : Nat} (h : k < n) (f : Nat → Rat) : sm n f = f k + sm n (fun j => if j = k then 0 else f j) := by
 have h1 : sm n f = sm n (fun j => (if j = k then f j else 0) + (if j = k then 0 else f j)) := by
  refine que fun j _ => ?_
  by_cases e : j = k
  ·rw [if_pos e, if_pos e]; grind
  ·rw [if_neg e, if_neg e]; grind
 rw [h1, qqb, q13 h]
theorem sm_le {n : Nat} {f g : Nat → Rat} (h : ∀ j, j < n → f j ≤ g j) : sm n f ≤ sm n g := by
 induction n with
 | zero => exact Rat.le_refl
 | succ n ih =>
   show sm n f + f n ≤ sm n g + g n
   have h1 := ih (fun j hj => h j (by omega))
   have h2 := h n (by omega)
   grind
theorem ql2 {n : Nat} {f : Nat → Rat} (h : ∀ j, j < n → 0 ≤ f j) : 0 ≤ sm n f := by
 have := sm_le (f := fun _ => 0) h
 rwa [qkf] at this
theorem q7z {n : Nat} {f : Nat → Rat} (h : ∀ j, j < n → f j ≤ 0) : sm n f ≤ 0 := by
 have := sm_le (g := fun _ => 0) h
 rwa [qkf] at this
theorem qj1 {n : Nat} {f : Nat → Rat} (h : ∀ j, j < n → 0 ≤ f j) (h0 : sm n f = 0) {k : Nat} (hk : k < n) : f k = 0 := by
 have h1 := q5g hk f
 have h2 : 0 ≤ sm n (fun j => if j = k then 0 else f j) := ql2 fun j hj => by
  by_cases e : j = k
  ·rw [if_pos e]; exact Rat.le_refl
  ·rw [if_neg e]; exact h j hj
 have h3 := h k hk
 grind
theorem qfr (m k : Nat) (f : Nat → Rat) : sm (m + k) f = sm m f + sm k (fun j => f (m + j)) := by
 induction k with
 | zero => show sm m f = sm m f + 0; grind
 | succ k ih =>
   show sm (m + k) f + f (m + k) = sm m f + (sm k (fun j => f (m + j)) + f (m + k))
   rw [ih]; grind
theorem qep {n : Nat} {f : Nat → Rat} (h : sm n f < 0) : ∃ j, j < n ∧ f j < 0 := by
 refine Classical.byContradiction fun hn => ?_
 have : 0 ≤ sm n f := ql2 fun j hj => Rat.not_lt.1 fun hlt => hn ⟨j, hj, hlt⟩
 grind
theorem q1c {n : Nat} {f : Nat → Rat} (h : sm n f ≠ 0) : ∃ j, j < n ∧ f j ≠ 0 := by
 refine Classical.byContradiction fun hn => h (qr4 fun j hj => Classical.byContradiction fun h0 => hn ⟨j, hj, h0⟩)
theorem qsa {a b : Rat} (ha : 0 ≤ a) (hb : 0 ≤ b) : 0 ≤ a * b := Rat.mul_nonneg ha hb
theorem qj6 {a b : Rat} (ha : a ≤ 0) (hb : b ≤ 0) : 0 ≤ a * b := by
 have := Rat.mul_nonneg (a := -a) (b := -b) (by grind) (by grind)
 grind
theorem qff {a b : Rat} (ha : 0 ≤ a) (hb : b ≤ 0) : a * b ≤ 0 := by
 have := Rat.mul_nonneg (a := a) (b := -b) ha (by grind)
 grind
theorem qu2 {a b : Rat} (ha : 0 ≤ a) (hb : 0 < b) : 0 ≤ a / b := by
 rw [Rat.div_def]
 exact Rat.mul_nonneg ha (Rat.le_of_lt (Rat.inv_pos.2 hb))
theorem q0y {a b : Rat} (hb : b ≠ 0) : a / b * b = a := by grind
theorem mul_pos' {a b : Rat} (ha : 0 < a) (hb : 0 < b) : 0 < a * b := Rat.mul_pos ha hb
theorem q9y {a b : Rat} (ha : a < 0) (hb : b < 0) : 0 < a * b := by
 have := Rat.mul_pos (a := -a) (b := -b) (by grind) (by grind)
 grind
structure Inv (m W : Nat) (A : Nat → Nat → Rat) (u : Nat → Nat) (D : Nat → Rat) (R : Nat → Nat → Rat) (C : Nat → Rat) (b : Nat → Nat) : Prop where
 bW : ∀ i, i < m → b i < W
 U : ∀ k, k < m → ∀ l, l < m → R k (b l) = if k = l then 1 else 0
 M : ∀ i, i < m → ∀ j, j ≤ W → R i j = sm m (fun k => R i (u k) * A k j)
 J : ∀ i, i < m → ∀ j, j ≤ W → A i j = sm m (fun k => A i (b k) * R k j)
 CJ : ∀ j, j ≤ W → D j = C j + sm m (fun k => D (b k) * R k j)
section
variable {m W : Nat} {A : Nat → Nat → Rat} {u : Nat → Nat} {D : Nat → Rat} {R : Nat → Nat → Rat} {C : Nat → Rat} {b : Nat → Nat}
theorem Inv.Cb (h : Inv m W A u D R C b) {l : Nat} (hl : l < m) : C (b l) = 0 := by
 have h1 := h.CJ (b l) (by have := h.bW l hl; omega)
 rw [qfn hl (fun k hk hne => by rw [h.U k hk l hl, if_neg hne]; exact Rat.mul_zero _), h.U l hl l hl, if_pos rfl] at h1
 grind
theorem Inv.inj (h : Inv m W A u D R C b) {k l : Nat} (hk : k < m) (hl : l < m) (e : b k = b l) : k = l := by
 have h1 := h.U k hk k hk
 rw [e, h.U k hk l hl, if_pos rfl] at h1
 by_cases hkl : k = l
 ·exact hkl
 ·rw [if_neg hkl] at h1; exact absurd h1 (by decide)
theorem Inv.CM (h : Inv m W A u D R C b) (hu : ∀ k, k < m → u k < W) {j : Nat} (hj : j ≤ W) : C j = D j - sm m (fun k => (D (u k) - C (u k)) * A k j) := by
 have h1 := h.CJ j hj
 have h2 : sm m (fun l => D (b l) * R l j) = sm m (fun k => (D (u k) - C (u k)) * A k j) := by
  have e1 : ∀ k, k < m → (D (u k) - C (u k)) * A k j = sm m (fun l => D (b l) * (R l (u k) * A k j)) := by
   intro k hk
   have h3 := h.CJ (u k) (by have := hu k hk; omega)
   have h4 : D (u k) - C (u k) = sm m (fun l => D (b l) * R l (u k)) := by grind
   rw [h4, Rat.mul_comm, ← q1q]
   exact que fun l _ => by grind
  rw [que e1, qds]
  refine que fun l hl => ?_
  rw [q1q, ← h.M l hl j hj]
 grind
def pvR (R : Nat → Nat → Rat) (r c : Nat) : Nat → Nat → Rat := fun i j => if i = r then R r j / R r c else R i j - R r j / R r c * R i c
def pvC (R : Nat → Nat → Rat) (C : Nat → Rat) (r c : Nat) : Nat → Rat := fun j => C j - R r j / R r c * C c
def pvB (b : Nat → Nat) (r c : Nat) : Nat → Nat := fun i => if i = r then c else b i
theorem qg8 (R : Nat → Nat → Rat) (r c j : Nat) : pvR R r c r j = R r j / R r c := by unfold pvR; rw [if_pos rfl]
theorem qd7 (R : Nat → Nat → Rat) {r i : Nat} (c j : Nat) (h : i ≠ r) : pvR R r c i j = R i j - R r j / R r c * R i c := by unfold pvR; rw [if_neg h]
theorem pv_sum {m : Nat} {R : Nat → Nat → Rat} {r c : Nat} (hr : r < m) (h0 : R r c ≠ 0) (f g : Nat → Rat) (hg : ∀ k, k < m → k ≠ r → g k = f k) (hr' : g r = sm m (fun k => f k * R k c)) (j : Nat) :
 sm m (fun k => f k * R k j) = sm m (fun k => g k * pvR R r c k j) := by
 rw [q5g hr (fun k => g k * pvR R r c k j), q5g hr (fun k => f k * R k j), hr', qg8, q5g hr (fun k => f k * R k c)]
 have e : sm m (fun k => if k = r then 0 else g k * pvR R r c k j) = sm m (fun k => if k = r then 0 else f k * R k j) - sm m (fun k => if k = r then 0 else f k * R k c) * (R r j / R r c) := by
  rw [Rat.mul_comm, ← q1q, ← qb9]
  refine que fun k hk => ?_
  by_cases e : k = r
  ·rw [if_pos e, if_pos e, if_pos e]; grind
  ·rw [if_neg e, if_neg e, if_neg e, hg k hk e, qd7 R c j e]; grind
 rw [e]
 grind
theorem Inv.pivot (h : Inv m W A u D R C b) {r c : Nat} (hr : r < m) (hc : c < W) (h0 : R r c ≠ 0) : Inv m W A u D (pvR R r c) (pvC R C r c) (pvB b r c) := by
 refine ⟨?_, ?_, ?_, ?_, ?_⟩
 ·intro i hi
  unfold pvB
  split
  ·exact hc
  ·exact h.bW i hi
 ·intro k hk l hl
  unfold pvB
  by_cases el : l = r
  ·rw [if_pos el]
   subst el
   by_cases ek : k = l
   ·subst ek; rw [qg8, if_pos rfl]; grind
   ·rw [qd7 R c c ek, if_neg ek]; grind
  ·rw [if_neg el]
   have h1 := h.U r hr l hl
   rw [if_neg (fun e => el e.symm)] at h1
   by_cases ek : k = r
   ·subst ek; rw [qg8, h1, if_neg (fun e => el e.symm)]; grind
   ·rw [qd7 R c _ ek, h1, h.U k hk l hl]; grind
 ·intro i hi j hj
  by_cases e : i = r
  ·subst e
   rw [qg8]
   have e1 : ∀ k, k < m → pvR R i c i (u k) * A k j = (1 / R i c) * (R i (u k) * A k j) := fun k _ => by rw [qg8]; grind
   rw [que e1, q1q, ← h.M i hi j hj]; grind
  ·rw [qd7 R c j e]
   have e1 : ∀ k, k < m → pvR R r c i (u k) * A k j = R i (u k) * A k j - (R i c / R r c) * (R r (u k) * A k j) := fun k _ => by rw [qd7 R c _ e]; grind
   rw [que e1, qb9, q1q, ← h.M i hi j hj, ← h.M r hr j hj]; grind
 ·intro i hi j hj
  rw [h.J i hi j hj]
  refine pv_sum hr h0 (fun k => A i (b k)) (fun k => A i (pvB b r c k)) (fun k _ hk => ?_) ?_ j
  ·show A i (pvB b r c k) = A i (b k)
   unfold pvB; rw [if_neg hk]
  ·show A i (pvB b r c r) = _
   unfold pvB; rw [if_pos rfl]
   exact h.J i hi c (by omega)
 ·intro j hj
  have h1 := h.CJ j hj
  have h2 := h.CJ c (by omega)
  -- with f k = D (b k): the new coefficient of row r is D c; the sum over the rows is D c - C c
  have h3 := pv_sum (m := m) (R := R) (r := r) (c := c) hr h0 (fun k => D (b k)) (fun k => if k = r then sm m (fun k => D (b k) * R k c) else D (b k)) (fun k _ hk => if_neg hk) (if_pos rfl) j
  rw [h1, h3, q5g hr, q5g hr (fun k => D (pvB b r c k) * pvR R r c k j)]
  have e1 : sm m (fun k => if k = r then 0 else (if k = r then sm m (fun k => D (b k) * R k c) else D (b k)) * pvR R r c k j) = sm m (fun k => if k = r then 0 else D (pvB b r c k) * pvR R r c k j) := by
   refine que fun k _ => ?_
   by_cases e : k = r
   ·rw [if_pos e, if_pos e]
   ·rw [if_neg e, if_neg e, if_neg e]; unfold pvB; rw [if_neg e]
  rw [e1, qg8]
  unfold pvC pvB
  rw [if_pos rfl, if_pos rfl]
  grind
theorem Inv.unique {R' : Nat → Nat → Rat} {C' : Nat → Rat} {b' : Nat → Nat} (h : Inv m W A u D R C b) (h' : Inv m W A u D R' C' b') (hu : ∀ k, k < m → u k < W) (hb : ∀ i, i < m → b' i = b i) :
 (∀ i, i < m → ∀ j, j ≤ W → R' i j = R i j) ∧ ∀ j, j ≤ W → C' j = C j := by
 have hR : ∀ i, i < m → ∀ j, j ≤ W → R' i j = R i j := by
  intro i hi j hj
  rw [h'.M i hi j hj]
  have e1 : ∀ k, k < m → R' i (u k) * A k j = sm m (fun l => (R' i (u k) * A k (b l)) * R l j) := by
   intro k hk
   rw [h.J k hk j hj, ← q1q]
   exact que fun l _ => by grind
  rw [que e1, qds]
  have e2 : ∀ l, l < m → sm m (fun k => (R' i (u k) * A k (b l)) * R l j) = (if l = i then R l j else 0) := by
   intro l hl
   have e3 : ∀ k, k < m → (R' i (u k) * A k (b l)) * R l j = R l j * (R' i (u k) * A k (b l)) := fun k _ => by grind
   rw [que e3, q1q, ← h'.M i hi (b l) (by have := h.bW l hl; omega), ← hb l hl, h'.U i hi l hl]
   by_cases e : l = i
   ·rw [if_pos e, if_pos e.symm]; grind
   ·rw [if_neg e, if_neg (fun e' => e e'.symm)]; grind
  rw [que e2, q13 hi]
 refine ⟨hR, fun j hj => ?_⟩
 have h1 := h.CJ j hj
 have h2 := h'.CJ j hj
 have e : sm m (fun k => D (b' k) * R' k j) = sm m (fun k => D (b k) * R k j) := que fun k hk => by rw [hb k hk, hR k hk j hj]
 grind
def Sol (m W : Nat) (A : Nat → Nat → Rat) (x : Nat → Rat) : Prop := ∀ i, i < m → sm W (fun j => A i j * x j) = A i W
theorem Inv.sol (h : Inv m W A u D R C b) (x : Nat → Rat) : Sol m W A x ↔ Sol m W R x := by
 constructor
 ·intro hs i hi
  have e1 : ∀ j, j < W → R i j * x j = sm m (fun k => R i (u k) * (A k j * x j)) := by
   intro j hj
   rw [h.M i hi j (by omega), Rat.mul_comm, ← q1q]
   exact que fun k _ => by grind
  rw [que e1, qds, h.M i hi W (Nat.le_refl _)]
  refine que fun k hk => ?_
  rw [q1q, hs k hk]
 ·intro hs i hi
  have e1 : ∀ j, j < W → A i j * x j = sm m (fun k => A i (b k) * (R k j * x j)) := by
   intro j hj
   rw [h.J i hi j (by omega), Rat.mul_comm, ← q1q]
   exact que fun k _ => by grind
  rw [que e1, qds, h.J i hi W (Nat.le_refl _)]
  refine que fun k hk => ?_
  rw [q1q, hs k hk]
theorem Inv.cost (h : Inv m W A u D R C b) {x : Nat → Rat} (hs : Sol m W R x) : sm W (fun j => D j * x j) = sm W (fun j => C j * x j) + (D W - C W) := by
 have e1 : ∀ j, j < W → D j * x j = C j * x j + sm m (fun k => D (b k) * (R k j * x j)) := by
  intro j hj
  have h1 := h.CJ j (by omega)
  rw [que (g := fun k => x j * (D (b k) * R k j)) (fun k _ => by grind), q1q]
  grind
 rw [que e1, qqb, qds]
 have e2 : ∀ k, k < m → sm W (fun j => D (b k) * (R k j * x j)) = D (b k) * R k W := by
  intro k hk
  rw [q1q, hs k hk]
 rw [que e2]
 have h1 := h.CJ W (Nat.le_refl _)
 grind
theorem Inv.dir (h : Inv m W A u D R C b) {d : Nat → Rat} (hs : ∀ i, i < m → sm W (fun j => R i j * d j) = 0) : sm W (fun j => D j * d j) = sm W (fun j => C j * d j) := by
 have e1 : ∀ j, j < W → D j * d j = C j * d j + sm m (fun k => D (b k) * (R k j * d j)) := by
  intro j hj
  have h1 := h.CJ j (by omega)
  rw [que (g := fun k => d j * (D (b k) * R k j)) (fun k _ => by grind), q1q]
  grind
 rw [que e1, qqb, qds]
 have e2 : ∀ k, k < m → sm W (fun j => D (b k) * (R k j * d j)) = 0 := by
  intro k hk
  rw [q1q, hs k hk]; exact Rat.mul_zero _
 rw [qr4 e2]; grind
theorem Inv.dirA (h : Inv m W A u D R C b) {d : Nat → Rat} (hs : ∀ i, i < m → sm W (fun j => R i j * d j) = 0) : ∀ i, i < m → sm W (fun j => A i j * d j) = 0 := by
 intro i hi
 have e1 : ∀ j, j < W → A i j * d j = sm m (fun k => A i (b k) * (R k j * d j)) := by
  intro j hj
  rw [h.J i hi j (by omega), Rat.mul_comm, ← q1q]
  exact que fun k _ => by grind
 rw [que e1, qds]
 exact qr4 fun k hk => by rw [q1q, hs k hk]; exact Rat.mul_zero _
theorem Inv.dirR (h : Inv m W A u D R C b) {d : Nat → Rat} (hs : ∀ i, i < m → sm W (fun j => A i j * d j) = 0) : ∀ i, i < m → sm W (fun j => R i j * d j) = 0 := by
 intro i hi
 have e1 : ∀ j, j < W → R i j * d j = sm m (fun k => R i (u k) * (A k j * d j)) := by
  intro j hj
  rw [h.M i hi j (by omega), Rat.mul_comm, ← q1q]
  exact que fun k _ => by grind
 rw [que e1, qds]
 exact qr4 fun k hk => by rw [q1q, hs k hk]; exact Rat.mul_zero _
end
def cnt : Nat → (Nat → Bool) → Nat
 | 0, _ => 0
 | n + 1, p => cnt n p + if p n then 1 else 0
theorem qvg (n : Nat) (p : Nat → Bool) : cnt n p ≤ n := by
 induction n with
 | zero => exact Nat.le_refl _
 | succ n ih => unfold cnt; split <;> omega
theorem cnt_congr {n : Nat} {p q : Nat → Bool} (h : ∀ j, j < n → p j = q j) : cnt n p = cnt n q := by
 induction n with
 | zero => rfl
 | succ n ih => unfold cnt; rw [ih (fun j hj => h j (by omega)), h n (by omega)]
theorem cnt_zero {n : Nat} {p : Nat → Bool} (h : cnt n p = 0) {j : Nat} (hj : j < n) : p j = false := by
 induction n with
 | zero => omega
 | succ n ih =>
   unfold cnt at h
   by_cases e : j = n
   ·subst e
    cases hp : p j with
    | false => rfl
    | true => rw [hp] at h; simp at h
   ·exact ih (by omega) (by omega)
theorem cnt_mono {n : Nat} {p q : Nat → Bool} (h : ∀ j, j < n → p j = true → q j = true) : cnt n p ≤ cnt n q := by
 induction n with
 | zero => exact Nat.le_refl _
 | succ n ih =>
   unfold cnt
   have h1 := ih (fun j hj => h j (by omega))
   have h2 := h n (by omega)
   cases hp : p n with
   | false => simp; omega
   | true => rw [h2 hp]; omega
theorem cnt_less {n k : Nat} {p q : Nat → Bool} (hk : k < n) (h : ∀ j, j < n → p j = true → q j = true) (h1 : p k = false) (h2 : q k = true) : cnt n p < cnt n q := by
 induction n with
 | zero => omega
 | succ n ih =>
   unfold cnt
   by_cases e : k = n
   ·subst e
    have := cnt_mono (n := k) (fun j hj => h j (by omega))
    rw [h1, h2]; simp; omega
   ·have h3 := ih (by omega) (fun j hj => h j (by omega))
    have h4 := h n (by omega)
    cases hp : p n with
    | false => simp; omega
    | true => rw [h4 hp]; omega
structure Mag (P : Nat → Rat → Prop) : Prop where
 mono : ∀ {j k : Nat} {q : Rat}, j ≤ k → P j q → P k q
 neg : ∀ {k : Nat} {q : Rat}, P k q → P k (-q)
 sub : ∀ {j k : Nat} {x y : Rat}, P j x → P k y → P (j + k + 1) (x - y)
 add : ∀ {j k : Nat} {x y : Rat}, P j x → P k y → P (j + k + 1) (x + y)
 mul : ∀ {j k : Nat} {x y : Rat}, P j x → P k y → P (j + k) (x * y)
 div : ∀ {j k : Nat} {x y : Rat}, P j x → P k y → y ≠ 0 → P (j + k) (x / y)
 zero : ∀ {k : Nat}, 0 < k → P k 0
def grow : Nat → Nat → Nat
 | 0, h => h
 | k + 1, h => grow k (4 * h + 1)
theorem grow_ge (k h : Nat) : h ≤ grow k h := by
 induction k generalizing h with
 | zero => exact Nat.le_refl _
 | succ k ih => exact Nat.le_trans (by omega) (ih (4 * h + 1))
theorem qv2 {j k : Nat} (h : Nat) (e : j ≤ k) : grow j h ≤ grow k h := by
 induction j generalizing k h with
 | zero => exact grow_ge k h
 | succ j ih =>
   obtain ⟨k', rfl⟩ : ∃ k', k = k' + 1 := ⟨k - 1, by omega⟩
   exact ih _ (by omega)
structure Can (m W : Nat) (A : Nat → Nat → Rat) (u : Nat → Nat) (R : Nat → Nat → Rat) (b : Nat → Nat) : Prop where
 bW : ∀ i, i < m → b i < W
 uW : ∀ i, i < m → u i < W
 uU : ∀ k, k < m → ∀ l, l < m → A k (u l) = if k = l then 1 else 0
 U : ∀ k, k < m → ∀ l, l < m → R k (b l) = if k = l then 1 else 0
 M : ∀ i, i < m → ∀ j, j ≤ W → R i j = sm m (fun k => R i (u k) * A k j)
 J : ∀ i, i < m → ∀ j, j ≤ W → A i j = sm m (fun k => A i (b k) * R k j)
def rng (m : Nat) (u : Nat → Nat) (c : Nat) : Bool := (List.range m).any fun k => u k == c
theorem rng_iff {m : Nat} {u : Nat → Nat} {c : Nat} : rng m u c = true ↔ ∃ k, k < m ∧ u k = c := by
 unfold rng
 rw [List.any_eq_true]
 constructor
 ·rintro ⟨k, h1, h2⟩; exact ⟨k, List.mem_range.1 h1, by simpa using h2⟩
 ·rintro ⟨k, h1, h2⟩; exact ⟨k, List.mem_range.2 h1, by simpa using h2⟩
theorem q3v {m : Nat} {u : Nat → Nat} {c : Nat} (h : rng m u c = false) {k : Nat} (hk : k < m) : u k ≠ c := fun e => by
 have := rng_iff.2 ⟨k, hk, e⟩
 rw [h] at this; cases this
theorem q7o {m : Nat} {R : Nat → Nat → Rat} {b : Nat → Nat} (hU : ∀ k, k < m → ∀ l, l < m → R k (b l) = if k = l then 1 else 0) {k l : Nat} (hk : k < m) (hl : l < m) (e : b k = b l) : k = l := by
 have h1 := hU k hk k hk
 rw [e, hU k hk l hl, if_pos rfl] at h1
 by_cases hkl : k = l
 ·exact hkl
 ·rw [if_neg hkl] at h1; exact absurd h1 (by decide)
theorem Mag.pivot {P : Nat → Rat → Prop} (hP : Mag P) {m W h : Nat} {A : Nat → Nat → Rat} (hA : ∀ i, i < m → ∀ j, j ≤ W → P h (A i j)) {r c : Nat} (hr : r < m) (hc : c ≤ W) (h0 : A r c ≠ 0) : ∀ i, i < m → ∀ j, j ≤ W → P (4 * h + 1) (pvR A r c i j) := by
 intro i hi j hj
 have h1 := hP.div (hA r hr j hj) (hA r hr c hc) h0
 unfold pvR
 split
 ·exact hP.mono (by omega) h1
 ·exact hP.mono (by omega) (hP.sub (hA i hi j hj) (hP.mul h1 (hA i hi c hc)))
theorem Can.pivot {m W : Nat} {A : Nat → Nat → Rat} {u : Nat → Nat} {R : Nat → Nat → Rat} {b : Nat → Nat} (h : Can m W A u R b) {r c : Nat} (hr : r < m) (hc : c < W) (h0 : A r c ≠ 0) : Can m W (pvR A r c) (pvB u r c) R b := by
 refine ⟨h.bW, ?_, ?_, h.U, ?_, ?_⟩
 ·intro i hi
  unfold pvB; split
  ·exact hc
  ·exact h.uW i hi
 ·intro k hk l hl
  unfold pvB
  by_cases el : l = r
  ·rw [if_pos el]
   subst el
   by_cases ek : k = l
   ·subst ek; rw [qg8, if_pos rfl]; grind
   ·rw [qd7 A c c ek, if_neg ek]; grind
  ·rw [if_neg el]
   have h1 := h.uU r hr l hl
   rw [if_neg (fun e => el e.symm)] at h1
   by_cases ek : k = r
   ·subst ek; rw [qg8, h1, if_neg (fun e => el e.symm)]; grind
   ·rw [qd7 A c _ ek, h1, h.uU k hk l hl]; grind
 ·intro i hi j hj
  rw [h.M i hi j hj]
  refine pv_sum hr h0 (fun k => R i (u k)) (fun k => R i (pvB u r c k)) (fun k _ hk => ?_) ?_ j
  ·show R i (pvB u r c k) = R i (u k)
   unfold pvB; rw [if_neg hk]
  ·show R i (pvB u r c r) = _
   unfold pvB; rw [if_pos rfl]
   exact h.M i hi c (by omega)
 ·intro i hi j hj
  by_cases e : i = r
  ·subst e
   rw [qg8]
   have e1 : ∀ k, k < m → pvR A i c i (b k) * R k j = (1 / A i c) * (A i (b k) * R k j) := fun k _ => by rw [qg8]; grind
   rw [que e1, q1q, ← h.J i hi j hj]; grind
  ·rw [qd7 A c j e]
   have e1 : ∀ k, k < m → pvR A r c i (b k) * R k j = A i (b k) * R k j - (A i c / A r c) * (A r (b k) * R k j) := fun k _ => by rw [qd7 A c _ e]; grind
   rw [que e1, qb9, q1q, ← h.J i hi j hj, ← h.J r hr j hj]; grind
theorem Can.bound {P : Nat → Rat → Prop} (hP : Mag P) {m W : Nat} {R : Nat → Nat → Rat} {b : Nat → Nat} :
 ∀ (k h : Nat) (A : Nat → Nat → Rat) (u : Nat → Nat) (n : Nat), Can m W A u R b → (∀ i, i < m → ∀ j, j ≤ W → P h (A i j)) →
  (∀ l, l < m → rng m u (b l) = true ∨ b l < n) → cnt n (fun c => rng m b c && !rng m u c) ≤ k → ∀ i, i < m → ∀ j, j ≤ W → P (grow k h) (R i j) := by
 intro k
 induction k with
 | zero =>
   intro h A u n hc hA hr hk i hi j hj
   have hall : ∀ l, l < m → ∃ s, s < m ∧ u s = b l := by
    intro l hl
    rcases hr l hl with h1 | h1
    ·exact rng_iff.1 h1
    ·have := cnt_zero (Nat.le_zero.1 hk) h1
     rw [rng_iff.2 ⟨l, hl, rfl⟩] at this
     simp only [Bool.true_and, Bool.not_eq_false'] at this
     exact rng_iff.1 this
   obtain ⟨s, hs, hu⟩ := hall i hi
   have e : A s j = R i j := by
    rw [hc.J s hs j hj, qfn hi ?_]
    ·rw [← hu, hc.uU s hs s hs, if_pos rfl]; grind
    ·intro k hk hne
     obtain ⟨t, ht, hut⟩ := hall k hk
     rw [← hut, hc.uU s hs t ht, if_neg]
     ·grind
     ·intro est
      subst est
      exact hne (q7o hc.U hk hi (hut.symm.trans hu))
   rw [← e]
   exact hA s hs j hj
 | succ k ih =>
   intro h A u n hc hA hr hk i hi j hj
   by_cases hall : ∀ l, l < m → rng m u (b l) = true
   ·refine hP.mono (qv2 h (by omega)) (ih h A u n hc hA hr ?_ i hi j hj)
    have : cnt n (fun c => rng m b c && !rng m u c) ≤ cnt n (fun _ => false) := cnt_mono fun c _ h1 => by
     rw [Bool.and_eq_true] at h1
     obtain ⟨l, hl, hbl⟩ := rng_iff.1 h1.1
     have h2 := hall l hl
     rw [hbl] at h2
     rw [h2] at h1; cases h1.2
    have h0 : ∀ n, cnt n (fun _ => false) = 0 := fun n => by
     induction n with
     | zero => rfl
     | succ n ih => unfold cnt; rw [ih]; rfl
    rw [h0] at this; omega
   ·-- a column of b that is none of u's
    obtain ⟨l, hl, hlu⟩ : ∃ l, l < m ∧ rng m u (b l) = false := by
     refine Classical.byContradiction fun hn => hall fun l hl => ?_
     cases e : rng m u (b l) with
     | true => rfl
     | false => exact absurd ⟨l, hl, e⟩ hn
    have hbn : b l < n := by
     rcases hr l hl with h1 | h1
     ·rw [hlu] at h1; cases h1
     ·exact h1
    have h1 : sm m (fun k => R l (u k) * A k (b l)) ≠ 0 := by
     rw [← hc.M l hl (b l) (by have := hc.bW l hl; omega), hc.U l hl l hl, if_pos rfl]; decide
    obtain ⟨r, hrm, hr0⟩ := q1c h1
    have hA0 : A r (b l) ≠ 0 := fun e => hr0 (by show R l (u r) * A r (b l) = 0; rw [e]; exact Rat.mul_zero _)
    have hR0 : R l (u r) ≠ 0 := fun e => hr0 (by show R l (u r) * A r (b l) = 0; rw [e]; exact Rat.zero_mul _)
    have hur : rng m b (u r) = false := by
     cases e : rng m b (u r) with
     | false => rfl
     | true =>
       exfalso
       obtain ⟨t, ht, hbt⟩ := rng_iff.1 e
       rw [← hbt, hc.U l hl t ht] at hR0
       by_cases elt : l = t
       ·subst elt
        exact q3v hlu hrm hbt.symm
       ·rw [if_neg elt] at hR0; exact hR0 rfl
    have hnew : ∀ c, rng m (pvB u r (b l)) c = true ↔ c = b l ∨ (c ≠ u r ∧ rng m u c = true) := by
     intro c
     rw [rng_iff, rng_iff]
     constructor
     ·rintro ⟨k, hk, e⟩
      unfold pvB at e
      by_cases ek : k = r
      ·rw [if_pos ek] at e; exact .inl e.symm
      ·rw [if_neg ek] at e
       refine .inr ⟨fun e2 => ek (q7o (R := A) hc.uU hk hrm (e.trans e2)), k, hk, e⟩
     ·rintro (e | ⟨e1, k, hk, e2⟩)
      ·exact ⟨r, hrm, by unfold pvB; rw [if_pos rfl, e]⟩
      ·refine ⟨k, hk, ?_⟩
       unfold pvB
       rw [if_neg (fun e => e1 (by rw [← e2, e])), e2]
    refine ih (4 * h + 1) (pvR A r (b l)) (pvB u r (b l)) n (hc.pivot hrm (hc.bW l hl) hA0) (hP.pivot hA hrm (by have := hc.bW l hl; omega) hA0) ?_ ?_ i hi j hj
    ·intro t ht
     rcases hr t ht with h2 | h2
     ·left
      refine (hnew _).2 (.inr ⟨fun e => ?_, h2⟩)
      exact q3v hur ht e
     ·exact .inr h2
    ·have : cnt n (fun c => rng m b c && !rng m (pvB u r (b l)) c) < cnt n (fun c => rng m b c && !rng m u c) := by
      refine cnt_less hbn ?_ ?_ ?_
      ·intro c _ h2
       rw [Bool.and_eq_true, Bool.not_eq_true'] at h2 ⊢
       refine ⟨h2.1, ?_⟩
       cases e : rng m u c with
       | false => rfl
       | true =>
         have h3 : rng m (pvB u r (b l)) c = true := (hnew c).2 (.inr ⟨fun e2 => (by rw [e2, hur] at h2; exact absurd h2.1 (by decide)), e⟩)
         rw [h3] at h2; cases h2.2
      ·have h3 : rng m (pvB u r (b l)) (b l) = true := (hnew _).2 (.inl rfl)
       rw [h3]; simp
      ·rw [hlu, rng_iff.2 ⟨l, hl, rfl⟩]; rfl
     omega
def entL (C : Nat → Rat) (first : Bool) : Nat → Option Nat
 | 0 => none
 | j + 1 => match entL C first j with
   | none => if C j < 0 then some j else none
   | some k => if first = true then some k else if C j < 0 ∧ C j < C k then some j else some k
def q45 (R : Nat → Nat → Rat) (W : Nat) (b : Nat → Nat) (c : Nat) : Nat → Option Nat
 | 0 => none
 | i + 1 => match q45 R W b c i with
   | none => if 0 < R i c then some i else none
   | some k => if 0 < R i c ∧ (R i W / R i c < R k W / R k c ∨ (R i W / R i c = R k W / R k c ∧ b i < b k)) then some i else some k
theorem q9a {C : Nat → Rat} {f : Bool} {n : Nat} (h : entL C f n = none) : ∀ j, j < n → 0 ≤ C j := by
 induction n with
 | zero => intro j hj; omega
 | succ n ih =>
   intro j hj
   unfold entL at h
   cases e : entL C f n with
   | none =>
     rw [e] at h
     simp only at h
     by_cases hn : C n < 0
     ·rw [if_pos hn] at h; cases h
     ·by_cases ej : j = n
      ·subst ej; exact Rat.not_lt.1 hn
      ·exact ih e j (by omega)
   | some k =>
     rw [e] at h
     simp only at h
     split at h
     ·cases h
     ·split at h <;> cases h
theorem qcn {C : Nat → Rat} {f : Bool} {n c : Nat} (h : entL C f n = some c) : c < n ∧ C c < 0 ∧ (f = true → ∀ j, j < c → 0 ≤ C j) := by
 induction n generalizing c with
 | zero => cases h
 | succ n ih =>
   unfold entL at h
   cases e : entL C f n with
   | none =>
     rw [e] at h
     simp only at h
     by_cases hn : C n < 0
     ·rw [if_pos hn] at h
      injection h with h; subst h
      exact ⟨by omega, hn, fun _ => q9a e⟩
     ·rw [if_neg hn] at h; cases h
   | some k =>
     rw [e] at h
     simp only at h
     obtain ⟨h1, h2, h3⟩ := ih e
     by_cases hf : f = true
     ·rw [if_pos hf] at h
      injection h with h; subst h
      exact ⟨by omega, h2, h3⟩
     ·rw [if_neg hf] at h
      split at h
      ·next hc => injection h with h; subst h; exact ⟨by omega, hc.1, fun e => absurd e hf⟩
      ·injection h with h; subst h; exact ⟨by omega, h2, h3⟩
theorem qt1 {R : Nat → Nat → Rat} {W : Nat} {b : Nat → Nat} {c n : Nat} (h : q45 R W b c n = none) : ∀ i, i < n → R i c ≤ 0 := by
 induction n with
 | zero => intro i hi; omega
 | succ n ih =>
   intro i hi
   unfold q45 at h
   cases e : q45 R W b c n with
   | none =>
     rw [e] at h
     simp only at h
     by_cases hn : 0 < R n c
     ·rw [if_pos hn] at h; cases h
     ·by_cases ei : i = n
      ·subst ei; exact Rat.not_lt.1 hn
      ·exact ih e i (by omega)
   | some k =>
     rw [e] at h
     simp only at h
     split at h <;> cases h
theorem qn5 {R : Nat → Nat → Rat} {W : Nat} {b : Nat → Nat} {c n r : Nat} (h : q45 R W b c n = some r) :
 r < n ∧ 0 < R r c ∧ ∀ i, i < n → 0 < R i c → R r W / R r c < R i W / R i c ∨ (R r W / R r c = R i W / R i c ∧ b r ≤ b i) := by
 induction n generalizing r with
 | zero => cases h
 | succ n ih =>
   unfold q45 at h
   cases e : q45 R W b c n with
   | none =>
     rw [e] at h
     simp only at h
     by_cases hn : 0 < R n c
     ·rw [if_pos hn] at h
      injection h with h; subst h
      refine ⟨by omega, hn, fun i hi h0 => ?_⟩
      by_cases ei : i = n
      ·subst ei; exact .inr ⟨rfl, Nat.le_refl _⟩
      ·have := qt1 e i (by omega)
       grind
     ·rw [if_neg hn] at h; cases h
   | some k =>
     rw [e] at h
     simp only at h
     obtain ⟨h1, h2, h3⟩ := ih e
     split at h
     ·next hc =>
      injection h with h; subst h
      obtain ⟨hc1, hc2⟩ := hc
      refine ⟨by omega, hc1, fun i hi h0 => ?_⟩
      by_cases ei : i = n
      ·subst ei; exact .inr ⟨rfl, Nat.le_refl _⟩
      ·rcases h3 i (by omega) h0 with a | ⟨a, a'⟩
       ·left
        rcases hc2 with c1 | ⟨c1, c2⟩ <;> grind
       ·rcases hc2 with c1 | ⟨c1, c2⟩
        ·left; grind
        ·right; exact ⟨by grind, by omega⟩
     ·next hc =>
      injection h with h; subst h
      refine ⟨by omega, h2, fun i hi h0 => ?_⟩
      by_cases ei : i = n
      ·subst ei
       by_cases h4 : R k W / R k c < R i W / R i c
       ·exact .inl h4
       ·right
        by_cases h5 : R i W / R i c < R k W / R k c
        ·exact absurd ⟨h0, .inl h5⟩ hc
        ·have h6 : R k W / R k c = R i W / R i c := Rat.le_antisymm (Rat.not_lt.1 h5) (Rat.not_lt.1 h4)
         refine ⟨h6, ?_⟩
         by_cases h7 : b i < b k
         ·exact absurd ⟨h0, .inr ⟨h6.symm, h7⟩⟩ hc
         ·omega
      ·exact h3 i (by omega) h0
theorem q2o {C C' : Nat → Rat} {f : Bool} {n : Nat} (h : ∀ j, j < n → C' j = C j) : entL C' f n = entL C f n := by
 induction n with
 | zero => rfl
 | succ n ih =>
   unfold entL
   rw [ih (fun j hj => h j (by omega))]
   cases e : entL C f n with
   | none => simp only; rw [h n (by omega)]
   | some k =>
     have := (qcn e).1
     simp only; rw [h n (by omega), h k (by omega)]
theorem qh1 {R R' : Nat → Nat → Rat} {W : Nat} {b b' : Nat → Nat} {c n : Nat} (h : ∀ i, i < n → R' i W = R i W ∧ R' i c = R i c ∧ b' i = b i) : q45 R' W b' c n = q45 R W b c n := by
 induction n with
 | zero => rfl
 | succ n ih =>
   unfold q45
   rw [ih (fun j hj => h j (by omega))]
   obtain ⟨h1, h2, h3⟩ := h n (by omega)
   cases e : q45 R W b c n with
   | none => simp only; rw [h2]
   | some k =>
     have hk := (qn5 e).1
     obtain ⟨k1, k2, k3⟩ := h k (by omega)
     simp only; rw [h1, h2, h3, k1, k2, k3]
structure St where
 R : Nat → Nat → Rat
 C : Nat → Rat
 b : Nat → Nat
 stalled : Bool
def St.piv (W : Nat) (s : St) (r c : Nat) : St := ⟨pvR s.R r c, pvC s.R s.C r c, pvB s.b r c, decide (s.R r W = 0)⟩
def nxt (m W art : Nat) (s : St) : Option St :=
 match entL s.C s.stalled art with
 | none => none
 | some c => match q45 s.R W s.b c m with
   | none => none
   | some r => some (s.piv W r c)
def it (m W art : Nat) : Nat → St → Option St
 | 0, s => some s
 | k + 1, s => (it m W art k s).bind (nxt m W art)
theorem qx0 {m W art : Nat} {s s' : St} (h : nxt m W art s = some s') : ∃ c r, entL s.C s.stalled art = some c ∧ q45 s.R W s.b c m = some r ∧ s' = s.piv W r c := by
 unfold nxt at h
 split at h
 ·cases h
 ·next c hc =>
  split at h
  ·cases h
  ·next r hr => injection h with h; exact ⟨c, r, hc, hr, h.symm⟩
def Fea (m W : Nat) (R : Nat → Nat → Rat) : Prop := ∀ i, i < m → 0 ≤ R i W
structure Way (m W art : Nat) (A : Nat → Nat → Rat) (u : Nat → Nat) (D : Nat → Rat) (s : St) : Prop where
 inv : Inv m W A u D s.R s.C s.b
 fea : Fea m W s.R
theorem Way.next {m W art : Nat} {A : Nat → Nat → Rat} {u : Nat → Nat} {D : Nat → Rat} {s : St} (h : Way m W art A u D s) (ha : art ≤ W) {c r : Nat} (hc : entL s.C s.stalled art = some c) (hr : q45 s.R W s.b c m = some r) : Way m W art A u D (s.piv W r c) := by
 obtain ⟨h1, h2, h3⟩ := qcn hc
 obtain ⟨g1, g2, g3⟩ := qn5 hr
 refine ⟨h.inv.pivot g1 (by omega) (by grind), fun i hi => ?_⟩
 show 0 ≤ pvR s.R r c i W
 by_cases e : i = r
 ·subst e; rw [qg8]; exact qu2 (h.fea i hi) g2
 ·rw [qd7 _ _ _ e]
  have hr0 : 0 ≤ s.R r W / s.R r c := qu2 (h.fea r g1) g2
  by_cases hp : 0 < s.R i c
  ·have h4 : s.R r W / s.R r c ≤ s.R i W / s.R i c := by
    rcases g3 i hi hp with a | ⟨a, _⟩ <;> grind
   have h5 := Rat.mul_le_mul_of_nonneg_right h4 (Rat.le_of_lt hp)
   rw [q0y (by grind)] at h5
   grind
  ·have h6 := qff hr0 (Rat.not_lt.1 hp)
   have h7 := h.fea i hi
   grind
structure Same (m W : Nat) (s t : St) : Prop where
 R : ∀ i, i < m → ∀ j, j ≤ W → t.R i j = s.R i j
 C : ∀ j, j ≤ W → t.C j = s.C j
 b : ∀ i, i < m → t.b i = s.b i
 st : t.stalled = s.stalled
theorem Same.next {m W art : Nat} {s t : St} (h : Same m W s t) (ha : art ≤ W) {c r : Nat} (hc : entL s.C s.stalled art = some c) (hr : q45 s.R W s.b c m = some r) :
 entL t.C t.stalled art = some c ∧ q45 t.R W t.b c m = some r ∧ Same m W (s.piv W r c) (t.piv W r c) := by
 have h1 := (qcn hc).1
 have h2 := (qn5 hr).1
 refine ⟨?_, ?_, ?_, ?_, ?_, ?_⟩
 ·rw [h.st, q2o (fun j hj => h.C j (by omega)), hc]
 ·rw [qh1 (fun i hi => ⟨h.R i hi W (Nat.le_refl _), h.R i hi c (by omega), h.b i hi⟩), hr]
 ·intro i hi j hj
  show pvR t.R r c i j = pvR s.R r c i j
  unfold pvR
  rw [h.R r h2 j hj, h.R r h2 c (by omega), h.R i hi j hj, h.R i hi c (by omega)]
 ·intro j hj
  show pvC t.R t.C r c j = pvC s.R s.C r c j
  unfold pvC
  rw [h.R r h2 j hj, h.R r h2 c (by omega), h.C j hj, h.C c (by omega)]
 ·intro i hi
  show pvB t.b r c i = pvB s.b r c i
  unfold pvB
  rw [h.b i hi]
 ·show decide (t.R r W = 0) = decide (s.R r W = 0)
  rw [h.R r h2 W (Nat.le_refl _)]
theorem pigeon : ∀ (K : Nat) (f : Nat → Nat), (∀ i, i ≤ K → f i < K) → ∃ i j, i < j ∧ j ≤ K ∧ f i = f j := by
 intro K
 induction K with
 | zero => intro f h; have := h 0 (Nat.le_refl _); omega
 | succ K ih =>
   intro f h
   refine Classical.byContradiction fun hn => ?_
   have hinj : ∀ i j, i < j → j ≤ K + 1 → f i ≠ f j := fun i j h1 h2 h3 => hn ⟨i, j, h1, h2, h3⟩
   obtain ⟨i, j, h1, h2, h3⟩ := ih (fun i => if f i = K then f (K + 1) else f i) (fun i hi => by
    have h1 := h i (by omega)
    have h2 := h (K + 1) (Nat.le_refl _)
    have h3 := hinj i (K + 1) (by omega) (Nat.le_refl _)
    split <;> omega)
   have e1 := hinj i j h1 (by omega)
   have e2 := hinj i (K + 1) (by omega) (Nat.le_refl _)
   have e3 := hinj j (K + 1) (by omega) (Nat.le_refl _)
   split at h3 <;> split at h3 <;> omega
def enc (W : Nat) (b : Nat → Nat) : Nat → Nat
 | 0 => 0
 | k + 1 => enc W b k * W + b k
theorem enc_lt {W : Nat} {b : Nat → Nat} {m : Nat} (h : ∀ i, i < m → b i < W) : enc W b m < W ^ m := by
 induction m with
 | zero => exact Nat.one_pos
 | succ m ih =>
   have h1 := ih (fun i hi => h i (by omega))
   have h2 := h m (by omega)
   show enc W b m * W + b m < W ^ (m + 1)
   rw [Nat.pow_succ]
   have : (enc W b m + 1) * W ≤ W ^ m * W := Nat.mul_le_mul_right _ h1
   rw [Nat.add_mul, Nat.one_mul] at this
   omega
theorem enc_inj {W : Nat} {b b' : Nat → Nat} {m : Nat} (h : ∀ i, i < m → b i < W) (h' : ∀ i, i < m → b' i < W) (e : enc W b m = enc W b' m) : ∀ i, i < m → b i = b' i := by
 induction m with
 | zero => intro i hi; omega
 | succ m ih =>
   have h1 := h m (by omega)
   have h2 := h' m (by omega)
   have e' : enc W b m * W + b m = enc W b' m * W + b' m := e
   have hm : b m = b' m := by
    have := congrArg (· % W) e'
    simp only [Nat.mul_comm _ W, Nat.mul_add_mod] at this
    rwa [Nat.mod_eq_of_lt h1, Nat.mod_eq_of_lt h2] at this
   have he : enc W b m = enc W b' m := by
    rw [hm] at e'
    exact Nat.eq_of_mul_eq_mul_right (by omega) (Nat.add_right_cancel e')
   intro i hi
   by_cases ei : i = m
   ·subst ei; exact hm
   ·exact ih (fun i hi => h i (by omega)) (fun i hi => h' i (by omega)) he i (by omega)
theorem ceases {p : Nat → Prop} : ∀ (n a : Nat), p a → ¬ p (a + n) → ∃ k, a ≤ k ∧ k < a + n ∧ p k ∧ ¬ p (k + 1) := by
 intro n
 induction n with
 | zero => intro a h h'; exact absurd h h'
 | succ n ih =>
   intro a h h'
   by_cases h1 : p (a + 1)
   ·obtain ⟨k, k1, k2, k3⟩ := ih (a + 1) h1 (by rwa [Nat.add_assoc, Nat.add_comm 1])
    exact ⟨k, by omega, by omega, k3⟩
   ·exact ⟨a, by omega, by omega, h, h1⟩
theorem qer {e : Nat → Nat} {a : Nat} : ∀ (K : Nat), (∀ k, a ≤ k → e k < K) → ∃ k, a ≤ k ∧ ∀ k', a ≤ k' → e k' ≤ e k := by
 intro K
 induction K with
 | zero => intro h; have := h a (Nat.le_refl _); omega
 | succ K ih =>
   intro h
   by_cases hk : ∃ k, a ≤ k ∧ e k = K
   ·obtain ⟨k, h1, h2⟩ := hk
    exact ⟨k, h1, fun k' h' => by have := h k' h'; omega⟩
   ·refine ih fun k hk' => ?_
    have := h k hk'
    have : e k ≠ K := fun e' => hk ⟨k, hk', e'⟩
    omega
structure Run (m W art : Nat) (A : Nat → Nat → Rat) (u : Nat → Nat) (D : Nat → Rat) (t : Nat → St) (e l : Nat → Nat) : Prop where
 way : ∀ k, Way m W art A u D (t k)
 ent : ∀ k, entL (t k).C (t k).stalled art = some (e k)
 lea : ∀ k, q45 (t k).R W (t k).b (e k) m = some (l k)
 nx : ∀ k, t (k + 1) = (t k).piv W (l k) (e k)
section
variable {m W art : Nat} {A : Nat → Nat → Rat} {u : Nat → Nat} {D : Nat → Rat} {t : Nat → St} {e l : Nat → Nat}
theorem Run.lm (h : Run m W art A u D t e l) (k : Nat) : l k < m := (qn5 (h.lea k)).1
theorem Run.ea (h : Run m W art A u D t e l) (k : Nat) : e k < art := (qcn (h.ent k)).1
theorem Run.same (h : Run m W art A u D t e l) (ha : art ≤ W) {i j : Nat} (hs : Same m W (t i) (t j)) : ∀ k, Same m W (t (i + k)) (t (j + k)) := by
 intro k
 induction k with
 | zero => exact hs
 | succ k ih =>
   obtain ⟨h1, h2, h3⟩ := ih.next ha (h.ent (i + k)) (h.lea (i + k))
   have h4 : e (j + k) = e (i + k) := by
    have := h.ent (j + k)
    rw [h1] at this
    exact (Option.some.inj this).symm
   have h5 : l (j + k) = l (i + k) := by
    have := h.lea (j + k)
    rw [h4, h2] at this
    exact (Option.some.inj this).symm
   have e1 := h.nx (i + k)
   have e2 := h.nx (j + k)
   rw [h4, h5] at e2
   show Same m W (t (i + k + 1)) (t (j + k + 1))
   rw [e1, e2]; exact h3
theorem Run.val (h : Run m W art A u D t e l) (k : Nat) : (t (k + 1)).C W = (t k).C W + (t k).R (l k) W / (t k).R (l k) (e k) * (-(t k).C (e k)) := by
 rw [h.nx k]
 show pvC (t k).R (t k).C (l k) (e k) W = _
 unfold pvC
 grind
theorem Run.up (h : Run m W art A u D t e l) (k : Nat) : (t k).C W ≤ (t (k + 1)).C W := by
 rw [h.val k]
 have h1 := (qcn (h.ent k)).2.1
 obtain ⟨h2, h3, _⟩ := qn5 (h.lea k)
 have h4 := qsa (qu2 ((h.way k).fea _ h2) h3) (b := -(t k).C (e k)) (by grind)
 grind
theorem Run.upN (h : Run m W art A u D t e l) (k n : Nat) : (t k).C W ≤ (t (k + n)).C W := by
 induction n with
 | zero => exact Rat.le_refl
 | succ n ih => exact Rat.le_trans ih (h.up (k + n))
theorem Run.flat (h : Run m W art A u D t e l) (k : Nat) (h0 : (t (k + 1)).C W ≤ (t k).C W) : (t k).R (l k) W = 0 := by
 rw [h.val k] at h0
 have h1 := (qcn (h.ent k)).2.1
 obtain ⟨h2, h3, _⟩ := qn5 (h.lea k)
 have h4 := qu2 ((h.way k).fea _ h2) h3
 have h5 : (t k).R (l k) W / (t k).R (l k) (e k) = 0 := by
  refine Classical.byContradiction fun hne => ?_
  have h6 : 0 < (t k).R (l k) W / (t k).R (l k) (e k) := by grind
  have h7 := mul_pos' h6 (b := -(t k).C (e k)) (by grind)
  grind
 have h8 := q0y (a := (t k).R (l k) W) (b := (t k).R (l k) (e k)) (by grind)
 rw [h5] at h8
 grind
def Bas (m : Nat) (s : St) (j : Nat) : Prop := ∃ r, r < m ∧ s.b r = j
def Zer (m W : Nat) (s : St) (j : Nat) : Prop := ∀ r, r < m → s.b r = j → s.R r W = 0
theorem Run.bas (h : Run m W art A u D t e l) {k j : Nat} (h1 : Bas m (t (k + 1)) j) : Bas m (t k) j ∨ j = e k := by
 obtain ⟨r, hr, h2⟩ := h1
 rw [h.nx k] at h2
 have h3 : pvB (t k).b (l k) (e k) r = j := h2
 unfold pvB at h3
 by_cases er : r = l k
 ·rw [if_pos er] at h3; exact .inr h3.symm
 ·rw [if_neg er] at h3; exact .inl ⟨r, hr, h3⟩
theorem Run.basN (h : Run m W art A u D t e l) {a j : Nat} : ∀ n, Bas m (t (a + n)) j → ¬ Bas m (t a) j → ∃ k, a ≤ k ∧ k < a + n ∧ j = e k := by
 intro n
 induction n with
 | zero => intro h1 h2; exact absurd h1 h2
 | succ n ih =>
   intro h1 h2
   rcases h.bas (k := a + n) h1 with h3 | h3
   ·obtain ⟨k, k1, k2, k3⟩ := ih h3 h2
    exact ⟨k, k1, by omega, k3⟩
   ·exact ⟨a + n, by omega, by omega, h3⟩
theorem Run.leaves (h : Run m W art A u D t e l) {k j : Nat} (h1 : Bas m (t k) j) (h2 : ¬ Bas m (t (k + 1)) j) : (t k).b (l k) = j := by
 obtain ⟨r, hr, h3⟩ := h1
 by_cases er : r = l k
 ·rw [← er]; exact h3
 ·exfalso
  refine h2 ⟨r, hr, ?_⟩
  rw [h.nx k]
  show pvB (t k).b (l k) (e k) r = j
  unfold pvB
  rw [if_neg er]; exact h3
theorem Run.zer (h : Run m W art A u D t e l) {k j : Nat} (h0 : (t k).R (l k) W = 0) (hz : Zer m W (t k) j) : Zer m W (t (k + 1)) j := by
 intro r hr hb
 rw [h.nx k] at hb ⊢
 have hb' : pvB (t k).b (l k) (e k) r = j := hb
 show pvR (t k).R (l k) (e k) r W = 0
 by_cases er : r = l k
 ·subst er
  rw [qg8, h0]; grind
 ·unfold pvB at hb'
  rw [if_neg er] at hb'
  rw [qd7 _ _ _ er, h0, hz r hr hb']; grind
theorem Run.false (h : Run m W art A u D t e l) (ha : art ≤ W) (hu : ∀ k, k < m → u k < W) : False := by
 -- a tableau comes back
 obtain ⟨i, j, hij, _, hf⟩ := pigeon (2 * W ^ m) (fun k => 2 * enc W (t k).b m + (if (t k).stalled = true then 1 else 0)) (fun k _ => by
  have := enc_lt (h.way k).inv.bW
  split <;> omega)
 have hst : (t j).stalled = (t i).stalled := by
  cases e1 : (t i).stalled <;> cases e2 : (t j).stalled <;> simp [e1, e2] at hf <;> first | rfl | omega
 have hen : enc W (t j).b m = enc W (t i).b m := by
  rw [hst] at hf
  omega
 have hb := enc_inj (h.way j).inv.bW (h.way i).inv.bW hen
 obtain ⟨hR, hC⟩ := (h.way i).inv.unique (h.way j).inv hu hb
 have hsame := h.same ha (i := i) (j := j) ⟨hR, hC, hb, hst⟩
 obtain ⟨p, hp, rfl⟩ : ∃ p, 0 < p ∧ j = i + p := ⟨j - i, by omega, by omega⟩
 have per : ∀ k, i ≤ k → Same m W (t k) (t (k + p)) := by
  intro k hk
  have := hsame (k - i)
  rwa [show i + (k - i) = k by omega, show i + p + (k - i) = k + p by omega] at this
 -- every step is degenerate, and so Bland's rule holds from i + 1 on
 have deg : ∀ k, i ≤ k → (t k).R (l k) W = 0 := by
  intro k hk
  refine h.flat k ?_
  have h1 := h.upN (k + 1) (p - 1)
  rw [show k + 1 + (p - 1) = k + p by omega, (per k hk).C W (Nat.le_refl _)] at h1
  exact h1
 have bl : ∀ k, i + 1 ≤ k → (t k).stalled = true := by
  intro k hk
  obtain ⟨k', rfl⟩ : ∃ k', k = k' + 1 := ⟨k - 1, by omega⟩
  rw [h.nx k']
  show decide ((t k').R (l k') W = 0) = true
  rw [deg k' (by omega)]; rfl
 -- q: the qer column that enters
 obtain ⟨k2, hk2, hmax⟩ := qer (e := e) (a := i + 1) art (fun k _ => h.ea k)
 obtain ⟨q, hq⟩ : ∃ q, q = e k2 := ⟨_, rfl⟩
 have T2 := (h.way k2).inv
 obtain ⟨_, hq0, hq1⟩ := qcn (h.ent k2)
 have hq1 := hq1 (bl k2 hk2)
 rw [← hq] at hq0 hq1
 have nb2 : ∀ j, (t k2).C j ≠ 0 → ¬ Bas m (t k2) j := by
  rintro j h0 ⟨r, hr, hbr⟩
  rw [← hbr] at h0
  exact h0 (T2.Cb hr)
 have hqn : ¬ Bas m (t k2) q := nb2 q (by grind)
 have hqb : Bas m (t (k2 + 1)) q := by
  refine ⟨l k2, h.lm k2, ?_⟩
  rw [h.nx k2]
  show pvB (t k2).b (l k2) (e k2) (l k2) = q
  unfold pvB
  rw [if_pos rfl, hq]
 have hqn2 : ¬ Bas m (t (k2 + p)) q := by
  rintro ⟨r, hr, hbr⟩
  rw [(per k2 (by omega)).b r hr] at hbr
  exact hqn ⟨r, hr, hbr⟩
 -- k1: where q leaves
 obtain ⟨k1, a1, a2, a3, a4⟩ := ceases (p := fun k => Bas m (t k) q) (p - 1) (k2 + 1) hqb (by rwa [show k2 + 1 + (p - 1) = k2 + p by omega])
 have hlq := h.leaves a3 a4
 have T1 := (h.way k1).inv
 obtain ⟨r, hr⟩ : ∃ r, r = l k1 := ⟨_, rfl⟩
 obtain ⟨c, hc⟩ : ∃ c, c = e k1 := ⟨_, rfl⟩
 have hrm : r < m := by rw [hr]; exact h.lm k1
 have hlea := qn5 (h.lea k1)
 have hent := qcn (h.ent k1)
 have hdeg := deg k1 (by omega)
 rw [← hr] at hlq hlea hdeg
 rw [← hc] at hlea hent
 obtain ⟨_, hrc, hmin⟩ := hlea
 obtain ⟨hca, hc0, _⟩ := hent
 have hcW : c < W := by omega
 -- the direction
 obtain ⟨d, hd⟩ : ∃ d : Nat → Rat, d = fun j => (if j = c then 1 else 0) - sm m (fun k => if (t k1).b k = j then (t k1).R k c else 0) := ⟨_, rfl⟩
 have sum_d : ∀ f : Nat → Rat, sm W (fun j => f j * d j) = f c - sm m (fun k => f ((t k1).b k) * (t k1).R k c) := by
  intro f
  have e1 : ∀ j, j < W → f j * d j = (if j = c then f j else 0) - sm m (fun k => if (t k1).b k = j then f j * (t k1).R k c else 0) := by
   intro j hj
   rw [hd]
   have e2 : ∀ k, k < m → (if (t k1).b k = j then f j * (t k1).R k c else 0) = f j * (if (t k1).b k = j then (t k1).R k c else 0) := by
    intro k _
    split
    ·rfl
    ·exact (Rat.mul_zero _).symm
   rw [que e2, q1q]
   by_cases ej : j = c
   ·simp only [if_pos ej]; grind
   ·simp only [if_neg ej]; grind
  rw [que e1, qb9, q13 hcW, qds]
  congr 1
  refine que fun k hk => ?_
  rw [que (g := fun j => if j = (t k1).b k then f j * (t k1).R k c else 0) (fun j _ => by
   by_cases ej : j = (t k1).b k
   ·rw [if_pos ej, if_pos ej.symm]
   ·rw [if_neg ej, if_neg (fun h' => ej h'.symm)])]
  exact q13 (T1.bW k hk) (fun j => f j * (t k1).R k c)
 have hRd : ∀ i, i < m → sm W (fun j => (t k1).R i j * d j) = 0 := by
  intro i hi
  rw [sum_d, qfn hi (fun k hk hne => by rw [T1.U i hi k hk, if_neg (fun h' => hne h'.symm)]; exact Rat.zero_mul _), T1.U i hi i hi, if_pos rfl]
  grind
 have hC1 : sm W (fun j => (t k1).C j * d j) = (t k1).C c := by
  rw [sum_d, qr4 (fun k hk => by rw [T1.Cb hk]; exact Rat.zero_mul _)]
  grind
 have hC2 : sm W (fun j => (t k2).C j * d j) = (t k1).C c := by
  rw [← hC1, ← T1.dir hRd]
  exact (T2.dir (T2.dirR (T1.dirA hRd))).symm
 obtain ⟨j, hjW, hj⟩ := qep (n := W) (f := fun j => (t k2).C j * d j) (by rw [hC2]; exact hc0)
 have hj : (t k2).C j * d j < 0 := hj
 have hCj : (t k2).C j ≠ 0 := fun h' => by rw [h'] at hj; grind
 have hdj : d j ≠ 0 := fun h' => by rw [h'] at hj; grind
 have hjn := nb2 j hCj
 have hce : c ≤ q := by rw [hc, hq]; exact hmax k1 (by omega)
 have hcn : ¬ Bas m (t k1) c := by
  rintro ⟨s, hs, hbs⟩
  have := T1.Cb hs
  rw [hbs] at this
  grind
 by_cases ejc : j = c
 ·-- the column that enters at k1
  have hd1 : d j = 1 := by
   rw [hd]
   simp only [if_pos ejc]
   rw [qr4 (fun k hk => by
    by_cases eb : (t k1).b k = j
    ·exact absurd ⟨k, hk, eb.trans ejc⟩ hcn
    ·exact if_neg eb)]
   grind
  have hjq : j ≠ q := fun h' => hcn (by rw [← ejc, h']; exact a3)
  have := hq1 j (by omega)
  rw [hd1] at hj
  grind
 ·have hdj2 : d j = -sm m (fun k => if (t k1).b k = j then (t k1).R k c else 0) := by
   rw [hd]
   simp only [if_neg ejc]
   grind
  obtain ⟨i', hi', hne⟩ := q1c (n := m) (f := fun k => if (t k1).b k = j then (t k1).R k c else 0) (fun h' => hdj (by rw [hdj2, h']; grind))
  have hbi : (t k1).b i' = j := by
   refine Classical.byContradiction fun h' => hne ?_
   exact if_neg h'
  have hdj3 : d j = -(t k1).R i' c := by
   rw [hdj2, qfn hi' (fun k hk hne' => if_neg (fun h' => hne' (T1.inj hk hi' (h'.trans hbi.symm)))), if_pos hbi]
  obtain ⟨k, hk1', hk2', hke⟩ := h.basN (a := k2) (k1 - k2) (j := j) (by rw [show k2 + (k1 - k2) = k1 by omega]; exact ⟨i', hi', hbi⟩) hjn
  have hjq : j ≤ q := by rw [hke, hq]; exact hmax k (by omega)
  by_cases ejq : j = q
  ·have eir : i' = r := T1.inj hi' hrm (by rw [hbi, hlq, ejq])
   rw [hdj3, eir] at hj
   rw [ejq] at hj
   have := q9y hq0 (b := -(t k1).R r c) (by grind)
   grind
  ·have hCp := hq1 j (by omega)
   have hRp : 0 < (t k1).R i' c := by
    refine Classical.byContradiction fun h' => ?_
    have := qsa hCp (b := d j) (by rw [hdj3]; grind)
    grind
   have hz : ∀ n, Zer m W (t (k2 + n)) j := by
    intro n
    induction n with
    | zero => intro s hs hbs; exact absurd ⟨s, hs, hbs⟩ hjn
    | succ n ih => exact h.zer (deg (k2 + n) (by omega)) ih
   have hz1 := hz (k1 - k2)
   rw [show k2 + (k1 - k2) = k1 by omega] at hz1
   have h0 := hz1 i' hi' hbi
   rcases hmin i' hi' hRp with h3 | ⟨_, h3⟩
   ·rw [h0, hdeg] at h3; grind
   ·rw [hlq, hbi] at h3; omega
end
theorem stops {m W art : Nat} {A : Nat → Nat → Rat} {u : Nat → Nat} {D : Nat → Rat} {s0 : St} (h : Way m W art A u D s0) (ha : art ≤ W) (hu : ∀ k, k < m → u k < W) : ∃ N s, it m W art N s0 = some s ∧ nxt m W art s = none := by
 refine Classical.byContradiction fun hn => ?_
 have hrun : ∀ N, ∃ s, it m W art N s0 = some s := by
  intro N
  induction N with
  | zero => exact ⟨s0, rfl⟩
  | succ N ih =>
    obtain ⟨s, hs⟩ := ih
    cases e : nxt m W art s with
    | none => exact absurd ⟨N, s, hs, e⟩ hn
    | some s' => exact ⟨s', by show (it m W art N s0).bind (nxt m W art) = some s'; rw [hs]; exact e⟩
 obtain ⟨t, ht⟩ : ∃ t : Nat → St, ∀ N, it m W art N s0 = some (t N) := ⟨fun N => Classical.choose (hrun N), fun N => Classical.choose_spec (hrun N)⟩
 have hnx : ∀ N, nxt m W art (t N) = some (t (N + 1)) := by
  intro N
  have h1 := ht (N + 1)
  have h2 : it m W art (N + 1) s0 = (it m W art N s0).bind (nxt m W art) := rfl
  rw [h2, ht N] at h1
  exact h1
 have hel : ∀ N, ∃ c r, entL (t N).C (t N).stalled art = some c ∧ q45 (t N).R W (t N).b c m = some r ∧ t (N + 1) = (t N).piv W r c := fun N => qx0 (hnx N)
 obtain ⟨e, he⟩ : ∃ e : Nat → Nat, ∀ N, ∃ r, entL (t N).C (t N).stalled art = some (e N) ∧ q45 (t N).R W (t N).b (e N) m = some r ∧ t (N + 1) = (t N).piv W r (e N) :=
  ⟨fun N => Classical.choose (hel N), fun N => Classical.choose_spec (hel N)⟩
 obtain ⟨l, hl⟩ : ∃ l : Nat → Nat, ∀ N, entL (t N).C (t N).stalled art = some (e N) ∧ q45 (t N).R W (t N).b (e N) m = some (l N) ∧ t (N + 1) = (t N).piv W (l N) (e N) :=
  ⟨fun N => Classical.choose (he N), fun N => Classical.choose_spec (he N)⟩
 have hway : ∀ N, Way m W art A u D (t N) := by
  intro N
  induction N with
  | zero =>
    have := ht 0
    have h1 : s0 = t 0 := Option.some.inj this
    rw [← h1]; exact h
  | succ N ih =>
    rw [(hl N).2.2]
    exact ih.next ha (hl N).1 (hl N).2.1
 exact Run.false (e := e) (l := l) ⟨hway, fun k => (hl k).1, fun k => (hl k).2.1, fun k => (hl k).2.2⟩ ha hu
structure Prob where
 n : Nat
 m : Nat
 obj : Nat → Rat
 len : Nat → Nat
 coef : Nat → Nat → Rat
 rel : Nat → Nat
 right : Nat → Rat
def Prob.Valid (p : Prob) : Prop := 1 ≤ p.n ∧ p.n ≤ 1000 ∧ p.m ≤ 1000 ∧ ∀ i, i < p.m → p.len i = p.n ∧ 1 ≤ p.rel i ∧ p.rel i ≤ 3
def dot (n : Nat) (a x : Nat → Rat) : Rat := sm n (fun j => a j * x j)
def Holds (rel : Nat) (l r : Rat) : Prop := (rel = 1 → l ≤ r) ∧ (rel = 2 → l = r) ∧ (rel = 3 → r ≤ l)
def Prob.Feas (p : Prob) (x : Nat → Rat) : Prop := (∀ j, j < p.n → 0 ≤ x j) ∧ ∀ i, i < p.m → Holds (p.rel i) (dot p.n (p.coef i) x) (p.right i)
def Prob.Sgn (p : Prob) (y : Nat → Rat) : Prop := ∀ i, i < p.m → (p.rel i = 1 → 0 ≤ y i) ∧ (p.rel i = 3 → y i ≤ 0)
def Prob.left (p : Prob) (y : Nat → Rat) (j : Nat) : Rat := sm p.m (fun i => y i * p.coef i j)
def Prob.rhs (p : Prob) (y : Nat → Rat) : Rat := sm p.m (fun i => y i * p.right i)
def Prob.Proves (p : Prob) (y : Nat → Rat) (z : Rat) : Prop := p.Sgn y ∧ (∀ j, j < p.n → p.obj j ≤ p.left y j) ∧ p.rhs y = z
def Prob.Refutes (p : Prob) (y : Nat → Rat) : Prop := p.Sgn y ∧ (∀ j, j < p.n → 0 ≤ p.left y j) ∧ p.rhs y < 0
theorem Prob.weak (p : Prob) {x y : Nat → Rat} (hv : ∀ i, i < p.m → 1 ≤ p.rel i ∧ p.rel i ≤ 3) (hx : p.Feas x) (hy : p.Sgn y) : sm p.n (fun j => p.left y j * x j) ≤ p.rhs y := by
 have e1 : ∀ j, j < p.n → p.left y j * x j = sm p.m (fun i => y i * (p.coef i j * x j)) := by
  intro j _
  unfold Prob.left
  rw [Rat.mul_comm, ← q1q]
  exact que fun i _ => by grind
 rw [que e1, qds]
 refine sm_le fun i hi => ?_
 rw [q1q]
 obtain ⟨h1, h2, h3⟩ := hx.2 i hi
 obtain ⟨g1, g2⟩ := hy i hi
 obtain ⟨v1, v2⟩ := hv i hi
 have hd : dot p.n (p.coef i) x = sm p.n (fun j => p.coef i j * x j) := rfl
 rw [hd] at h1 h2 h3
 rcases (show p.rel i = 1 ∨ p.rel i = 2 ∨ p.rel i = 3 by omega) with e | e | e
 ·have := qsa (g1 e) (b := p.right i - sm p.n (fun j => p.coef i j * x j)) (by have := h1 e; grind)
  grind
 ·rw [h2 e]; exact Rat.le_refl
 ·have := qj6 (g2 e) (b := p.right i - sm p.n (fun j => p.coef i j * x j)) (by have := h3 e; grind)
  grind
theorem Prob.Proves.bound {p : Prob} {x y : Nat → Rat} {z : Rat} (hv : ∀ i, i < p.m → 1 ≤ p.rel i ∧ p.rel i ≤ 3) (h : p.Proves y z) (hx : p.Feas x) : dot p.n p.obj x ≤ z := by
 have h1 := p.weak hv hx h.1
 rw [h.2.2] at h1
 refine Rat.le_trans ?_ h1
 exact sm_le fun j hj => Rat.mul_le_mul_of_nonneg_right (h.2.1 j hj) (hx.1 j hj)
theorem Prob.Refutes.none {p : Prob} {x y : Nat → Rat} (hv : ∀ i, i < p.m → 1 ≤ p.rel i ∧ p.rel i ≤ 3) (h : p.Refutes y) (hx : p.Feas x) : False := by
 have h1 := p.weak hv hx h.1
 have h2 : 0 ≤ sm p.n (fun j => p.left y j * x j) := ql2 fun j hj => qsa (h.2.1 j hj) (hx.1 j hj)
 have := h.2.2
 grind
inductive Out where
 | opt (z : Rat) (x y : Nat → Rat)
 | inf (y : Nat → Rat)
 | unb
def Prob.Ans (p : Prob) : Out → Prop
 | .opt z x y => p.Feas x ∧ dot p.n p.obj x = z ∧ p.Proves y z
 | .inf y => p.Refutes y
 | .unb => ∀ M : Rat, ∃ x, p.Feas x ∧ M ≤ dot p.n p.obj x
def Prob.flip (p : Prob) (i : Nat) : Bool := decide (p.right i < 0 ∨ (p.right i = 0 ∧ p.rel i = 3))
def Prob.dir (p : Prob) (i : Nat) : Nat := if p.flip i = true then 4 - p.rel i else p.rel i
def Prob.sl (p : Prob) (i : Nat) : Nat := p.n + cnt i (fun k => decide (p.rel k ≠ 2))
def Prob.art (p : Prob) : Nat := p.n + cnt p.m (fun k => decide (p.rel k ≠ 2))
def Prob.ar (p : Prob) (i : Nat) : Nat := p.art + cnt i (fun k => decide (p.dir k ≠ 1))
def Prob.W (p : Prob) : Nat := p.art + cnt p.m (fun k => decide (p.dir k ≠ 1))
def Prob.un (p : Prob) (i : Nat) : Nat := if p.dir i = 1 then p.sl i else p.ar i
def Prob.sg (p : Prob) (i : Nat) (q : Rat) : Rat := if p.flip i = true then -q else q
def Prob.T0 (p : Prob) (i j : Nat) : Rat :=
 if j = p.W then p.sg i (p.right i) else if j < p.n then p.sg i (p.coef i j)
 else if p.rel i ≠ 2 ∧ j = p.sl i then (if p.dir i = 1 then 1 else -1)
 else if p.dir i ≠ 1 ∧ j = p.ar i then 1 else 0
theorem cnt_lt {n i : Nat} {q : Nat → Bool} (hi : i < n) (h : q i = true) : cnt i q < cnt n q := by
 induction n with
 | zero => omega
 | succ n ih =>
   have e1 : cnt (n + 1) q = cnt n q + if q n = true then 1 else 0 := rfl
   rw [e1]
   by_cases e : i = n
   ·subst e; rw [h]; simp
   ·have := ih (by omega); omega
theorem cnt_inj {i k : Nat} {q : Nat → Bool} (hi : q i = true) (hk : q k = true) (e : cnt i q = cnt k q) : i = k := by
 rcases Nat.lt_trichotomy i k with h | h | h
 ·have := cnt_lt h hi; omega
 ·exact h
 ·have := cnt_lt h hk; omega
section
variable {p : Prob}
theorem Prob.sl_lt {i : Nat} (hi : i < p.m) (h : p.rel i ≠ 2) : p.sl i < p.art := by
 unfold Prob.sl Prob.art
 have := cnt_lt (q := fun k => decide (p.rel k ≠ 2)) hi (by simpa using h)
 omega
theorem Prob.sl_ge (i : Nat) : p.n ≤ p.sl i := by unfold Prob.sl; omega
theorem Prob.ar_lt {i : Nat} (hi : i < p.m) (h : p.dir i ≠ 1) : p.ar i < p.W := by
 unfold Prob.ar Prob.W
 have := cnt_lt (q := fun k => decide (p.dir k ≠ 1)) hi (by simpa using h)
 omega
theorem Prob.ar_ge (i : Nat) : p.art ≤ p.ar i := by unfold Prob.ar; omega
theorem Prob.art_le : p.art ≤ p.W := by unfold Prob.W; omega
theorem Prob.n_le : p.n ≤ p.art := by unfold Prob.art; omega
theorem Prob.sl_inj {i k : Nat} (hi : p.rel i ≠ 2) (hk : p.rel k ≠ 2) (e : p.sl i = p.sl k) : i = k :=
 cnt_inj (q := fun k => decide (p.rel k ≠ 2)) (by simpa using hi) (by simpa using hk) (by unfold Prob.sl at e; omega)
theorem Prob.ar_inj {i k : Nat} (hi : p.dir i ≠ 1) (hk : p.dir k ≠ 1) (e : p.ar i = p.ar k) : i = k :=
 cnt_inj (q := fun k => decide (p.dir k ≠ 1)) (by simpa using hi) (by simpa using hk) (by unfold Prob.ar at e; omega)
theorem Prob.dir_rel {i : Nat} (hv : 1 ≤ p.rel i ∧ p.rel i ≤ 3) (h : p.dir i = 1) : p.rel i ≠ 2 := by
 unfold Prob.dir at h
 split at h <;> omega
theorem Prob.un_lt (hv : ∀ i, i < p.m → 1 ≤ p.rel i ∧ p.rel i ≤ 3) {i : Nat} (hi : i < p.m) : p.un i < p.W := by
 unfold Prob.un
 split
 ·next h => have := Prob.sl_lt hi (Prob.dir_rel (hv i hi) h); have := p.art_le; omega
 ·next h => exact Prob.ar_lt hi h
theorem Prob.un_ge (i : Nat) : p.n ≤ p.un i := by
 unfold Prob.un
 split
 ·exact p.sl_ge i
 ·have := p.ar_ge i; have := p.n_le; omega
theorem Prob.T0_W (i : Nat) : p.T0 i p.W = p.sg i (p.right i) := by unfold Prob.T0; rw [if_pos rfl]
theorem Prob.T0_col {i j : Nat} (hj : j < p.n) : p.T0 i j = p.sg i (p.coef i j) := by
 unfold Prob.T0
 rw [if_neg (by have := p.n_le; have := p.art_le; omega), if_pos hj]
theorem Prob.T0_sl {i k : Nat} (hk : k < p.m) (h : p.rel k ≠ 2) : p.T0 i (p.sl k) = if i = k then (if p.dir k = 1 then 1 else -1) else 0 := by
 have h1 := Prob.sl_lt hk h
 have h2 := p.art_le
 have h3 := p.sl_ge k
 unfold Prob.T0
 rw [if_neg (by omega), if_neg (by omega)]
 by_cases e : i = k
 ·subst e; rw [if_pos ⟨h, rfl⟩, if_pos rfl]
 ·rw [if_neg (fun hh => e (Prob.sl_inj h hh.1 hh.2).symm), if_neg (fun hh => by have := p.ar_ge i; omega), if_neg e]
theorem Prob.T0_ar {i k : Nat} (hi : i < p.m) (hk : k < p.m) (h : p.dir k ≠ 1) : p.T0 i (p.ar k) = if i = k then 1 else 0 := by
 have h1 := Prob.ar_lt hk h
 have h2 := p.ar_ge k
 have h3 := p.n_le
 unfold Prob.T0
 rw [if_neg (by omega), if_neg (by omega), if_neg (fun hh => by have := Prob.sl_lt hi hh.1; omega)]
 by_cases e : i = k
 ·subst e; rw [if_pos ⟨h, rfl⟩, if_pos rfl]
 ·rw [if_neg (fun hh => e (Prob.ar_inj h hh.1 hh.2).symm), if_neg e]
theorem Prob.T0_un (hv : ∀ i, i < p.m → 1 ≤ p.rel i ∧ p.rel i ≤ 3) {i k : Nat} (hi : i < p.m) (hk : k < p.m) : p.T0 i (p.un k) = if i = k then 1 else 0 := by
 unfold Prob.un
 split
 ·next h =>
  rw [Prob.T0_sl hk (Prob.dir_rel (hv k hk) h), if_pos h]
 ·next h => exact Prob.T0_ar hi hk h
theorem cnt_at {n k : Nat} {q : Nat → Bool} (h : k < cnt n q) : ∃ i, i < n ∧ q i = true ∧ cnt i q = k := by
 induction n with
 | zero => exact absurd h (Nat.not_lt_zero _)
 | succ n ih =>
   have e1 : cnt (n + 1) q = cnt n q + if q n = true then 1 else 0 := rfl
   rw [e1] at h
   by_cases hk : k < cnt n q
   ·obtain ⟨i, h1, h2⟩ := ih hk
    exact ⟨i, by omega, h2⟩
   ·cases hq : q n with
    | false => rw [hq] at h; simp at h; omega
    | true => rw [hq] at h; simp at h; exact ⟨n, by omega, hq, by omega⟩
theorem Prob.column {j : Nat} (hj : j < p.W) : j < p.n ∨ (∃ i, i < p.m ∧ p.rel i ≠ 2 ∧ j = p.sl i) ∨ (∃ i, i < p.m ∧ p.dir i ≠ 1 ∧ j = p.ar i) := by
 by_cases h1 : j < p.n
 ·exact .inl h1
 ·by_cases h2 : j < p.art
  ·obtain ⟨i, a, b, c⟩ := cnt_at (k := j - p.n) (n := p.m) (q := fun k => decide (p.rel k ≠ 2)) (by unfold Prob.art at h2; omega)
   exact .inr (.inl ⟨i, a, by simpa using b, by unfold Prob.sl; omega⟩)
  ·obtain ⟨i, a, b, c⟩ := cnt_at (k := j - p.art) (n := p.m) (q := fun k => decide (p.dir k ≠ 1)) (by unfold Prob.W at hj; omega)
   exact .inr (.inr ⟨i, a, by simpa using b, by unfold Prob.ar; omega⟩)
theorem Prob.T0_fea (hv : ∀ i, i < p.m → 1 ≤ p.rel i ∧ p.rel i ≤ 3) : Fea p.m p.W p.T0 := by
 intro i hi
 rw [Prob.T0_W]
 unfold Prob.sg
 cases h : p.flip i with
 | true =>
   simp only [if_true]
   unfold Prob.flip at h
   have := of_decide_eq_true h
   rcases this with h | ⟨h, _⟩ <;> grind
 | false =>
   unfold Prob.flip at h
   have := of_decide_eq_false h
   simp only [Bool.false_eq_true, if_false]
   exact Rat.not_lt.1 fun h' => this (.inl h')
theorem Prob.T0_sum (hv : ∀ i, i < p.m → 1 ≤ p.rel i ∧ p.rel i ≤ 3) {i : Nat} (hi : i < p.m) (x : Nat → Rat) (hx : ∀ j, p.art ≤ j → j < p.W → x j = 0) :
 sm p.W (fun j => p.T0 i j * x j) = sm p.n (fun j => p.sg i (p.coef i j) * x j) + (if p.rel i = 2 then 0 else (if p.dir i = 1 then 1 else -1) * x (p.sl i)) := by
 have h1 : p.W = p.n + (p.W - p.n) := by have := p.n_le; have := p.art_le; omega
 rw [h1, qfr, que (n := p.n) (g := fun j => p.sg i (p.coef i j) * x j) (fun j hj => by rw [Prob.T0_col hj])]
 congr 1
 have key : ∀ j, j < p.W - p.n → ¬ (p.rel i ≠ 2 ∧ p.n + j = p.sl i) → p.T0 i (p.n + j) * x (p.n + j) = 0 := by
  intro j hj hne
  rcases p.column (j := p.n + j) (by omega) with h | ⟨k, hk, h2, h3⟩ | ⟨k, hk, h2, h3⟩
  ·omega
  ·rw [h3, Prob.T0_sl hk h2]
   by_cases e : i = k
   ·subst e; exact absurd ⟨h2, h3⟩ hne
   ·rw [if_neg e]; exact Rat.zero_mul _
  ·rw [hx (p.n + j) (by rw [h3]; exact p.ar_ge k) (by omega)]; exact Rat.mul_zero _
 by_cases hr : p.rel i = 2
 ·rw [if_pos hr]
  exact qr4 fun j hj => key j hj fun h => h.1 hr
 ·rw [if_neg hr]
  have h2 := Prob.sl_lt hi hr
  have h3 := p.sl_ge i
  have h4 := p.art_le
  rw [qfn (k := p.sl i - p.n) (by omega) (fun j hj hne => key j hj fun h => hne (by omega)), show p.n + (p.sl i - p.n) = p.sl i by omega, Prob.T0_sl hi hr, if_pos rfl]
end
section
variable {m W art : Nat} {A : Nat → Nat → Rat} {u : Nat → Nat} {D : Nat → Rat} {R : Nat → Nat → Rat} {C : Nat → Rat} {b : Nat → Nat}
def red (m : Nat) (D : Nat → Rat) (R : Nat → Nat → Rat) (b : Nat → Nat) (j : Nat) : Rat := D j - sm m (fun k => D (b k) * R k j)
theorem Inv.aim (h : Inv m W A u D R C b) (D' : Nat → Rat) : Inv m W A u D' R (red m D' R b) b :=
 ⟨h.bW, h.U, h.M, h.J, fun j _ => by unfold red; grind⟩
def dv (m : Nat) (R : Nat → Nat → Rat) (b : Nat → Nat) (c j : Nat) : Rat := (if j = c then 1 else 0) - sm m (fun k => if b k = j then R k c else 0)
theorem dv_sum (hb : ∀ k, k < m → b k < W) {c : Nat} (hc : c < W) (f : Nat → Rat) : sm W (fun j => f j * dv m R b c j) = f c - sm m (fun k => f (b k) * R k c) := by
 have e1 : ∀ j, j < W → f j * dv m R b c j = (if j = c then f j else 0) - sm m (fun k => if b k = j then f j * R k c else 0) := by
  intro j _
  unfold dv
  rw [show ∀ x y z : Rat, x * (y - z) = x * y - x * z from fun x y z => by grind, ← q1q]
  congr 1
  ·split <;> grind
  ·refine que fun k _ => ?_
   split <;> grind
 rw [que e1, qb9, q13 hc, qds]
 congr 1
 refine que fun k hk => ?_
 have e2 : ∀ j, j < W → (if b k = j then f j * R k c else 0) = (if j = b k then f j * R k c else 0) := by
  intro j _
  by_cases e : b k = j
  ·rw [if_pos e, if_pos e.symm]
  ·rw [if_neg e, if_neg (fun h => e h.symm)]
 rw [que e2, q13 (hb k hk) (fun j => f j * R k c)]
theorem Inv.dv_R (h : Inv m W A u D R C b) {c : Nat} (hc : c < W) : ∀ i, i < m → sm W (fun j => R i j * dv m R b c j) = 0 := by
 intro i hi
 rw [dv_sum h.bW hc, qfn hi (fun k hk hne => by rw [h.U i hi k hk, if_neg (Ne.symm hne)]; exact Rat.zero_mul _), h.U i hi i hi, if_pos rfl]
 grind
theorem Inv.dv_D (h : Inv m W A u D R C b) {c : Nat} (hc : c < W) : sm W (fun j => D j * dv m R b c j) = C c := by
 rw [h.dir (h.dv_R hc), dv_sum h.bW hc, qr4 (fun k hk => by rw [h.Cb hk]; exact Rat.zero_mul _)]
 grind
theorem qad {c : Nat} (h : ∀ i, i < m → R i c ≤ 0) (j : Nat) : 0 ≤ dv m R b c j := by
 unfold dv
 have h1 : sm m (fun k => if b k = j then R k c else 0) ≤ 0 := q7z fun k hk => by
  split
  ·exact h k hk
  ·exact Rat.le_refl
 split <;> grind
def pt (m W : Nat) (R : Nat → Nat → Rat) (b : Nat → Nat) (j : Nat) : Rat := sm m (fun k => if b k = j then R k W else 0)
theorem pt_sum (hb : ∀ k, k < m → b k < W) (f : Nat → Rat) : sm W (fun j => f j * pt m W R b j) = sm m (fun k => f (b k) * R k W) := by
 have e1 : ∀ j, j < W → f j * pt m W R b j = sm m (fun k => if j = b k then f j * R k W else 0) := by
  intro j _
  unfold pt
  rw [← q1q]
  refine que fun k _ => ?_
  by_cases e : b k = j
  ·rw [if_pos e, if_pos e.symm]
  ·rw [if_neg e, if_neg (fun h => e h.symm)]; exact Rat.mul_zero _
 rw [que e1, qds]
 exact que fun k hk => q13 (hb k hk) (fun j => f j * R k W)
theorem Inv.pt_sol (h : Inv m W A u D R C b) : Sol m W R (pt m W R b) := by
 intro i hi
 rw [pt_sum h.bW, qfn hi (fun k hk hne => by rw [h.U i hi k hk, if_neg (Ne.symm hne)]; exact Rat.zero_mul _), h.U i hi i hi, if_pos rfl]
 exact Rat.one_mul _
theorem Inv.pt_D (h : Inv m W A u D R C b) : sm W (fun j => D j * pt m W R b j) = D W - C W := by
 rw [h.cost h.pt_sol, pt_sum h.bW, qr4 (fun k hk => by rw [h.Cb hk]; exact Rat.zero_mul _)]
 grind
theorem q0q (hf : Fea m W R) (j : Nat) : 0 ≤ pt m W R b j := by
 unfold pt
 exact ql2 fun k hk => by
  split
  ·exact hf k hk
  ·exact Rat.le_refl
end
section
variable {p : Prob}
def Prob.Vrel (p : Prob) : Prop := ∀ i, i < p.m → 1 ≤ p.rel i ∧ p.rel i ≤ 3
def Prob.D1 (p : Prob) (j : Nat) : Rat := if p.art ≤ j ∧ j < p.W then 1 else 0
def Prob.D2 (p : Prob) (j : Nat) : Rat := if j < p.n then -p.obj j else 0
theorem Prob.inv0 (hv : p.Vrel) (D : Nat → Rat) : Inv p.m p.W p.T0 p.un D p.T0 (red p.m D p.T0 p.un) p.un := by
 refine ⟨fun i hi => Prob.un_lt hv hi, fun k hk l hl => Prob.T0_un hv hk hl, ?_, ?_, fun j _ => by unfold red; grind⟩
 ·intro i hi j _
  rw [qfn hi (fun k hk hne => by rw [Prob.T0_un hv hi hk, if_neg (Ne.symm hne)]; exact Rat.zero_mul _), Prob.T0_un hv hi hi, if_pos rfl]
  exact (Rat.one_mul _).symm
 ·intro i hi j _
  rw [qfn hi (fun k hk hne => by rw [Prob.T0_un hv hi hk, if_neg (Ne.symm hne)]; exact Rat.zero_mul _), Prob.T0_un hv hi hi, if_pos rfl]
  exact (Rat.one_mul _).symm
theorem Prob.D1_nonneg (j : Nat) : 0 ≤ p.D1 j := by
 unfold Prob.D1; split
 ·decide
 ·exact Rat.le_refl
theorem Prob.D1_sl {i : Nat} (hi : i < p.m) (h : p.rel i ≠ 2) : p.D1 (p.sl i) = 0 := by
 unfold Prob.D1; rw [if_neg]; have := Prob.sl_lt hi h; omega
theorem Prob.D2_sl (i : Nat) : p.D2 (p.sl i) = 0 := by
 unfold Prob.D2; rw [if_neg]; have := p.sl_ge i; omega
theorem Prob.D2_un (i : Nat) : p.D2 (p.un i) = 0 := by
 unfold Prob.D2; rw [if_neg]; have := p.un_ge i; omega
theorem Prob.D1_un (hv : p.Vrel) {i : Nat} (hi : i < p.m) : p.D1 (p.un i) = if p.art ≤ p.un i then 1 else 0 := by
 unfold Prob.D1
 have := Prob.un_lt hv hi
 by_cases h : p.art ≤ p.un i
 ·rw [if_pos ⟨h, this⟩, if_pos h]
 ·rw [if_neg (fun hh => h hh.1), if_neg h]
def Prob.mult (p : Prob) (D C : Nat → Rat) (i : Nat) : Rat := p.sg i (C (p.un i) - D (p.un i))
theorem Prob.sg_mul (i : Nat) (x y : Rat) : p.sg i x * y = x * p.sg i y := by unfold Prob.sg; split <;> grind
theorem Prob.multipliers (hv : p.Vrel) {D C : Nat → Rat} {R : Nat → Nat → Rat} {b : Nat → Nat} (h : Inv p.m p.W p.T0 p.un D R C b) (hD : ∀ i, i < p.m → p.rel i ≠ 2 → D (p.sl i) = 0) (hC : ∀ j, j < p.art → 0 ≤ C j) :
 p.Sgn (p.mult D C) ∧ (∀ j, j < p.n → p.left (p.mult D C) j = C j - D j) ∧ p.rhs (p.mult D C) = C p.W - D p.W := by
 have hu : ∀ k, k < p.m → p.un k < p.W := fun k hk => Prob.un_lt hv hk
 refine ⟨?_, ?_, ?_⟩
 ·intro i hi
  have key : p.rel i ≠ 2 → (if p.dir i = 1 then (1 : Rat) else -1) * (C (p.un i) - D (p.un i)) ≥ 0 := by
   intro hr
   have h1 := Prob.sl_lt hi hr
   have h2 := h.CM hu (j := p.sl i) (by have := p.art_le; omega)
   rw [qfn hi (fun k hk hne => by rw [Prob.T0_sl hi hr, if_neg hne]; exact Rat.mul_zero _), Prob.T0_sl hi hr, if_pos rfl, hD i hi hr] at h2
   have h3 := hC _ h1
   rw [h2] at h3
   grind
  unfold Prob.mult Prob.sg
  refine ⟨fun e => ?_, fun e => ?_⟩
  ·have := key (by omega)
   cases hf : p.flip i with
   | true =>
     have hd : p.dir i = 3 := by unfold Prob.dir; rw [hf, e]; rfl
     rw [hd] at this
     simp only [if_true]
     rw [if_neg (by decide)] at this
     grind
   | false =>
     have hd : p.dir i = 1 := by unfold Prob.dir; rw [hf, e]; rfl
     rw [hd, if_pos rfl] at this
     simp only [Bool.false_eq_true, if_false]
     grind
  ·have := key (by omega)
   cases hf : p.flip i with
   | true =>
     have hd : p.dir i = 1 := by unfold Prob.dir; rw [hf, e]; rfl
     rw [hd, if_pos rfl] at this
     simp only [if_true]
     grind
   | false =>
     have hd : p.dir i = 3 := by unfold Prob.dir; rw [hf, e]; rfl
     rw [hd, if_neg (by decide)] at this
     simp only [Bool.false_eq_true, if_false]
     grind
 ·intro j hj
  have h1 := h.CM hu (j := j) (by have := p.n_le; have := p.art_le; omega)
  unfold Prob.left
  have e1 : ∀ i, i < p.m → p.mult D C i * p.coef i j = -((D (p.un i) - C (p.un i)) * p.T0 i j) := by
   intro i _
   unfold Prob.mult
   rw [Prob.sg_mul, Prob.T0_col hj]; grind
  rw [que e1, qht]
  grind
 ·have h1 := h.CM hu (j := p.W) (Nat.le_refl _)
  unfold Prob.rhs
  have e1 : ∀ i, i < p.m → p.mult D C i * p.right i = -((D (p.un i) - C (p.un i)) * p.T0 i p.W) := by
   intro i _
   unfold Prob.mult
   rw [Prob.sg_mul, Prob.T0_W]; grind
  rw [que e1, qht]
  grind
theorem Prob.ent1 {s : St} (h : Way p.m p.W p.art p.T0 p.un p.D1 s) (hn : nxt p.m p.W p.art s = none) : entL s.C s.stalled p.art = none := by
 cases he : entL s.C s.stalled p.art with
 | none => rfl
 | some c =>
   exfalso
   obtain ⟨h1, h2, _⟩ := qcn he
   unfold nxt at hn
   rw [he] at hn
   simp only at hn
   cases hl : q45 s.R p.W s.b c p.m with
   | some r => rw [hl] at hn; cases hn
   | none =>
     have h3 := qt1 hl
     have h4 := h.inv.dv_D (c := c) (by have := p.art_le; omega)
     have h5 : 0 ≤ sm p.W (fun j => p.D1 j * dv p.m s.R s.b c j) := ql2 fun j _ => qsa (Prob.D1_nonneg j) (qad h3 j)
     grind
theorem Prob.D1_W : p.D1 p.W = 0 := by unfold Prob.D1; rw [if_neg (by omega)]
theorem Prob.D2_W : p.D2 p.W = 0 := by unfold Prob.D2; rw [if_neg (by have := p.n_le; have := p.art_le; omega)]
theorem Prob.value1 {s : St} (h : Way p.m p.W p.art p.T0 p.un p.D1 s) : s.C p.W = -sm p.m (fun k => p.D1 (s.b k) * s.R k p.W) ∧ s.C p.W ≤ 0 := by
 have h1 := h.inv.CJ p.W (Nat.le_refl _)
 rw [Prob.D1_W] at h1
 have h2 : 0 ≤ sm p.m (fun k => p.D1 (s.b k) * s.R k p.W) := ql2 fun k hk => qsa (Prob.D1_nonneg _) (h.fea k hk)
 exact ⟨by grind, by grind⟩
theorem Prob.refutes1 (hv : p.Vrel) {s : St} (h : Way p.m p.W p.art p.T0 p.un p.D1 s) (hn : nxt p.m p.W p.art s = none) (h0 : s.C p.W ≠ 0) : p.Refutes (p.mult p.D1 s.C) := by
 have he := q9a (Prob.ent1 h hn)
 obtain ⟨h1, h2, h3⟩ := Prob.multipliers hv h.inv (fun i hi hr => Prob.D1_sl hi hr) he
 refine ⟨h1, fun j hj => ?_, ?_⟩
 ·rw [h2 j hj]
  have : p.D1 j = 0 := by unfold Prob.D1; rw [if_neg (by have := p.n_le; omega)]
  rw [this]
  have := he j (by have := p.n_le; omega)
  grind
 ·rw [h3, Prob.D1_W]
  have := (Prob.value1 h).2
  grind
def Zart (p : Prob) (s : St) : Prop := ∀ k, k < p.m → p.art ≤ s.b k → s.R k p.W = 0
theorem Prob.zart1 {s : St} (h : Way p.m p.W p.art p.T0 p.un p.D1 s) (h0 : s.C p.W = 0) : Zart p s := by
 intro k hk hb
 have h1 := (Prob.value1 h).1
 have h2 : sm p.m (fun k => p.D1 (s.b k) * s.R k p.W) = 0 := by grind
 have h3 := qj1 (fun k hk => qsa (Prob.D1_nonneg (p := p) (s.b k)) (h.fea k hk)) h2 hk
 have h4 : p.D1 (s.b k) = 1 := by unfold Prob.D1; rw [if_pos ⟨hb, h.inv.bW k hk⟩]
 rw [h4] at h3
 grind
def fnz (f : Nat → Rat) : Nat → Option Nat
 | 0 => none
 | n + 1 => match fnz f n with
   | some j => some j
   | none => if f n ≠ 0 then some n else none
theorem qb7 {f : Nat → Rat} {n : Nat} (h : fnz f n = none) : ∀ j, j < n → f j = 0 := by
 induction n with
 | zero => intro j hj; omega
 | succ n ih =>
   unfold fnz at h
   cases e : fnz f n with
   | some j => rw [e] at h; cases h
   | none =>
     rw [e] at h
     simp only at h
     intro j hj
     by_cases ej : j = n
     ·subst ej
      refine Classical.byContradiction fun h0 => ?_
      rw [if_pos h0] at h; cases h
     ·exact ih e j (by omega)
theorem qz6 {f : Nat → Rat} {n c : Nat} (h : fnz f n = some c) : c < n ∧ f c ≠ 0 ∧ ∀ j, j < c → f j = 0 := by
 induction n with
 | zero => cases h
 | succ n ih =>
   unfold fnz at h
   cases e : fnz f n with
   | some j =>
     rw [e] at h
     injection h with h; subst h
     have := ih e
     exact ⟨by omega, this.2⟩
   | none =>
     rw [e] at h
     simp only at h
     by_cases h0 : f n ≠ 0
     ·rw [if_pos h0] at h
      injection h with h; subst h
      exact ⟨by omega, h0, qb7 e⟩
     ·rw [if_neg h0] at h; cases h
def exS (p : Prob) (s : St) (i : Nat) : St := if s.b i < p.art then s else match fnz (s.R i) p.art with
 | none => s
 | some j => s.piv p.W i j
def exL (p : Prob) (s : St) : Nat → St
 | 0 => s
 | i + 1 => exS p (exL p s i) i
def Emp (p : Prob) (s : St) (k : Nat) : Prop := p.art ≤ s.b k → ∀ j, j < p.art → s.R k j = 0
structure ExI (p : Prob) (D : Nat → Rat) (s : St) (i : Nat) : Prop where
 way : Way p.m p.W p.art p.T0 p.un D s
 zart : Zart p s
 emp : ∀ k, k < i → k < p.m → Emp p s k
theorem ExI.step {D : Nat → Rat} {s : St} {i : Nat} (h : ExI p D s i) (hi : i < p.m) : ExI p D (exS p s i) (i + 1) := by
 unfold exS
 by_cases hb : s.b i < p.art
 ·rw [if_pos hb]
  refine ⟨h.way, h.zart, fun k hk hk2 => ?_⟩
  by_cases e : k = i
  ·subst e; intro h'; omega
  ·exact h.emp k (by omega) hk2
 ·rw [if_neg hb]
  cases e : fnz (s.R i) p.art with
  | none =>
    simp only
    refine ⟨h.way, h.zart, fun k hk hk2 => ?_⟩
    by_cases e' : k = i
    ·subst e'; intro _; exact qb7 e
    ·exact h.emp k (by omega) hk2
  | some c =>
    simp only
    obtain ⟨h1, h2, _⟩ := qz6 e
    have hz := h.zart i hi (by omega)
    have ha := p.art_le
    have hw : ∀ k, k < p.m → (s.piv p.W i c).R k p.W = s.R k p.W := by
     intro k hk
     show pvR s.R i c k p.W = s.R k p.W
     by_cases e' : k = i
     ·subst e'; rw [qg8, hz]; grind
     ·rw [qd7 _ _ _ e', hz]; grind
    refine ⟨⟨h.way.inv.pivot hi (by omega) h2, fun k hk => by rw [hw k hk]; exact h.way.fea k hk⟩, ?_, ?_⟩
    ·intro k hk hbk
     rw [hw k hk]
     by_cases e' : k = i
     ·subst e'; exact hz
     ·refine h.zart k hk ?_
      have : (s.piv p.W i c).b k = s.b k := by show pvB s.b i c k = _; unfold pvB; rw [if_neg e']
      omega
    ·intro k hk hkm hbk
     by_cases e' : k = i
     ·subst e'
      have : (s.piv p.W k c).b k = c := by show pvB s.b k c k = _; unfold pvB; rw [if_pos rfl]
      omega
     ·have : (s.piv p.W i c).b k = s.b k := by show pvB s.b i c k = _; unfold pvB; rw [if_neg e']
      have he := h.emp k (by omega) hkm (by omega)
      intro j hj
      show pvR s.R i c k j = 0
      rw [qd7 _ _ _ e', he j hj, he c h1]; grind
theorem ExI.all {D : Nat → Rat} {s : St} (h : ExI p D s 0) : ∀ i, i ≤ p.m → ExI p D (exL p s i) i := by
 intro i
 induction i with
 | zero => intro _; exact h
 | succ i ih => intro hi; exact (ih (by omega)).step (by omega)
theorem ExI.next {D : Nat → Rat} {s s' : St} (h : ExI p D s p.m) (hn : nxt p.m p.W p.art s = some s') : ExI p D s' p.m := by
 obtain ⟨c, r, hc, hr, rfl⟩ := qx0 hn
 have hcl := (qcn hc).1
 obtain ⟨g1, g2, _⟩ := qn5 hr
 have hrb : s.b r < p.art := by
  refine Classical.byContradiction fun hb => ?_
  have := h.emp r g1 g1 (by omega) c hcl
  grind
 have hsame : ∀ k, k < p.m → p.art ≤ (s.piv p.W r c).b k → k ≠ r ∧ p.art ≤ s.b k := by
  intro k hk hb
  have hb' : p.art ≤ pvB s.b r c k := hb
  unfold pvB at hb'
  by_cases e : k = r
  ·rw [if_pos e] at hb'; omega
  ·rw [if_neg e] at hb'; exact ⟨e, hb'⟩
 refine ⟨h.way.next p.art_le hc hr, ?_, ?_⟩
 ·intro k hk hb
  obtain ⟨h1, h2⟩ := hsame k hk hb
  show pvR s.R r c k p.W = 0
  rw [qd7 _ _ _ h1, h.zart k hk h2, h.emp k hk hk h2 c hcl]; grind
 ·intro k hk _ hb j hj
  obtain ⟨h1, h2⟩ := hsame k hk hb
  show pvR s.R r c k j = 0
  rw [qd7 _ _ _ h1, h.emp k hk hk h2 c hcl, h.emp k hk hk h2 j hj]; grind
theorem it_keep {m W art : Nat} {P : St → Prop} (hP : ∀ s s', P s → nxt m W art s = some s' → P s') {s0 : St} (h0 : P s0) : ∀ {N : Nat} {s : St}, it m W art N s0 = some s → P s := by
 intro N
 induction N with
 | zero => intro s h; have h : some s0 = some s := h; injection h with h; subst h; exact h0
 | succ N ih =>
   intro s h
   have h' : (it m W art N s0).bind (nxt m W art) = some s := h
   cases e : it m W art N s0 with
   | none => rw [e] at h'; cases h'
   | some t => rw [e] at h'; exact hP t s (ih e) h'
theorem Prob.feas_of (hv : p.Vrel) {x : Nat → Rat} (h0 : ∀ j, 0 ≤ x j) (hz : ∀ j, p.art ≤ j → j < p.W → x j = 0) (hs : Sol p.m p.W p.T0 x) : p.Feas x := by
 refine ⟨fun j _ => h0 j, fun i hi => ?_⟩
 have h1 := hs i hi
 rw [Prob.T0_sum hv hi x hz, Prob.T0_W] at h1
 have h2 : sm p.n (fun j => p.sg i (p.coef i j) * x j) = p.sg i (dot p.n (p.coef i) x) := by
  unfold Prob.sg dot
  split
  ·rw [← qht]; exact que fun j _ => by grind
  ·rfl
 rw [h2] at h1
 have h3 := h0 (p.sl i)
 obtain ⟨v1, v2⟩ := hv i hi
 cases hf : p.flip i with
 | true =>
   unfold Prob.sg at h1
   rw [hf] at h1
   simp only [if_true] at h1
   have hd : p.dir i = 4 - p.rel i := by unfold Prob.dir; rw [hf]; rfl
   refine ⟨fun e => ?_, fun e => ?_, fun e => ?_⟩
   ·rw [if_neg (by omega), if_neg (by omega)] at h1; grind
   ·rw [if_pos e] at h1; grind
   ·rw [if_neg (by omega), if_pos (by omega)] at h1; grind
 | false =>
   unfold Prob.sg at h1
   rw [hf] at h1
   simp only [Bool.false_eq_true, if_false] at h1
   have hd : p.dir i = p.rel i := by unfold Prob.dir; rw [hf]; rfl
   refine ⟨fun e => ?_, fun e => ?_, fun e => ?_⟩
   ·rw [if_neg (by omega), if_pos (by omega)] at h1; grind
   ·rw [if_pos e] at h1; grind
   ·rw [if_neg (by omega), if_neg (by omega)] at h1; grind
theorem Prob.D2_dot (x : Nat → Rat) : sm p.W (fun j => p.D2 j * x j) = -dot p.n p.obj x := by
 have h1 : p.W = p.n + (p.W - p.n) := by have := p.n_le; have := p.art_le; omega
 rw [h1, qfr, qr4 (n := p.W - p.n) (fun j _ => by unfold Prob.D2; rw [if_neg (by omega)]; exact Rat.zero_mul _)]
 unfold dot
 rw [← qht, que (n := p.n) (g := fun j => -(p.obj j * x j)) (fun j hj => by unfold Prob.D2; rw [if_pos hj]; grind)]
 grind
theorem ExI.pt_zero {s : St} {D : Nat → Rat} (h : ExI p D s p.m) {j : Nat} (hj : p.art ≤ j) : pt p.m p.W s.R s.b j = 0 := by
 unfold pt
 refine qr4 fun k hk => ?_
 by_cases e : s.b k = j
 ·rw [if_pos e]; exact h.zart k hk (by omega)
 ·rw [if_neg e]
theorem ExI.dv_zero {s : St} {D : Nat → Rat} (h : ExI p D s p.m) {c j : Nat} (hc : c < p.art) (hj : p.art ≤ j) : dv p.m s.R s.b c j = 0 := by
 unfold dv
 rw [if_neg (by omega), qr4 fun k hk => ?_]
 ·grind
 ·by_cases e : s.b k = j
  ·rw [if_pos e]; exact h.emp k hk hk (by omega) c hc
  ·rw [if_neg e]
theorem ExI.feas {s : St} (hv : p.Vrel) (h : ExI p p.D2 s p.m) : p.Feas (pt p.m p.W s.R s.b) ∧ dot p.n p.obj (pt p.m p.W s.R s.b) = s.C p.W := by
 refine ⟨Prob.feas_of hv (q0q h.way.fea) (fun j hj _ => h.pt_zero hj) ((h.way.inv.sol _).2 h.way.inv.pt_sol), ?_⟩
 have h1 := h.way.inv.pt_D
 rw [Prob.D2_dot, Prob.D2_W] at h1
 grind
theorem ExI.optimal {s : St} (hv : p.Vrel) (h : ExI p p.D2 s p.m) (he : entL s.C s.stalled p.art = none) : p.Proves (p.mult p.D2 s.C) (s.C p.W) := by
 have hC := q9a he
 obtain ⟨h1, h2, h3⟩ := Prob.multipliers hv h.way.inv (fun i _ _ => Prob.D2_sl i) hC
 refine ⟨h1, fun j hj => ?_, ?_⟩
 ·rw [h2 j hj]
  have h4 := hC j (by have := p.n_le; omega)
  unfold Prob.D2
  rw [if_pos hj]
  grind
 ·rw [h3, Prob.D2_W]; grind
theorem ExI.unbounded {s : St} (hv : p.Vrel) (h : ExI p p.D2 s p.m) {c : Nat} (he : entL s.C s.stalled p.art = some c) (hl : q45 s.R p.W s.b c p.m = none) (M : Rat) : ∃ x, p.Feas x ∧ M ≤ dot p.n p.obj x := by
 obtain ⟨hc, hC, _⟩ := qcn he
 have hR := qt1 hl
 have ha := p.art_le
 have hcW : c < p.W := by omega
 obtain ⟨t, ht0, ht⟩ : ∃ t : Rat, 0 ≤ t ∧ M - s.C p.W ≤ t * (-s.C c) := by
  by_cases h0 : 0 ≤ M - s.C p.W
  ·exact ⟨(M - s.C p.W) / (-s.C c), qu2 h0 (by grind), by rw [q0y (by grind)]; exact Rat.le_refl⟩
  ·exact ⟨0, Rat.le_refl, by grind⟩
 have hI := h.way.inv
 have hdA := hI.dirA (hI.dv_R hcW)
 have hdD := hI.dv_D hcW
 have hpA : Sol p.m p.W p.T0 (pt p.m p.W s.R s.b) := (hI.sol _).2 hI.pt_sol
 have hpD := hI.pt_D
 rw [Prob.D2_W] at hpD
 refine ⟨fun j => pt p.m p.W s.R s.b j + t * dv p.m s.R s.b c j, Prob.feas_of hv (fun j => ?_) (fun j hj _ => ?_) (fun i hi => ?_), ?_⟩
 ·have := q0q (b := s.b) h.way.fea j
  have := qsa ht0 (qad (b := s.b) hR j)
  grind
 ·show pt p.m p.W s.R s.b j + t * dv p.m s.R s.b c j = 0
  rw [h.pt_zero hj, h.dv_zero hc hj]; grind
 ·show sm p.W (fun j => p.T0 i j * (pt p.m p.W s.R s.b j + t * dv p.m s.R s.b c j)) = _
  rw [que (g := fun j => p.T0 i j * pt p.m p.W s.R s.b j + t * (p.T0 i j * dv p.m s.R s.b c j)) (fun j _ => by grind), qqb, q1q, hdA i hi, hpA i hi]
  grind
 ·have e1 : -dot p.n p.obj (fun j => pt p.m p.W s.R s.b j + t * dv p.m s.R s.b c j) = -s.C p.W + t * s.C c := by
   rw [← Prob.D2_dot, que (g := fun j => p.D2 j * pt p.m p.W s.R s.b j + t * (p.D2 j * dv p.m s.R s.b c j)) (fun j _ => by grind), qqb, q1q, hdD, hpD]
   grind
  grind
noncomputable def fin (m W art : Nat) (s0 : St) : St := by
 classical
 exact if h : ∃ s N, it m W art N s0 = some s ∧ nxt m W art s = none then Classical.choose h else s0
theorem it_none {m W art : Nat} {s0 s : St} {N : Nat} (h : it m W art N s0 = some s) (hn : nxt m W art s = none) : ∀ k, it m W art (N + 1 + k) s0 = none := by
 intro k
 induction k with
 | zero => show (it m W art N s0).bind (nxt m W art) = none; rw [h]; exact hn
 | succ k ih => show (it m W art (N + 1 + k) s0).bind (nxt m W art) = none; rw [ih]; rfl
theorem it_end {m W art : Nat} {s0 s t : St} {N K : Nat} (h : it m W art N s0 = some s) (hn : nxt m W art s = none) (h' : it m W art K s0 = some t) (hn' : nxt m W art t = none) : s = t := by
 rcases Nat.lt_trichotomy N K with e | e | e
 ·have := it_none h hn (K - N - 1)
  rw [show N + 1 + (K - N - 1) = K by omega, h'] at this; cases this
 ·subst e; rw [h] at h'; exact Option.some.inj h'
 ·have := it_none h' hn' (N - K - 1)
  rw [show K + 1 + (N - K - 1) = N by omega, h] at this; cases this
theorem fin_eq {m W art : Nat} {s0 s : St} {N : Nat} (h : it m W art N s0 = some s) (hn : nxt m W art s = none) : fin m W art s0 = s := by
 have hex : ∃ s N, it m W art N s0 = some s ∧ nxt m W art s = none := ⟨s, N, h, hn⟩
 unfold fin
 rw [dif_pos hex]
 obtain ⟨K, hK, hK2⟩ := Classical.choose_spec hex
 exact it_end hK hK2 h hn
noncomputable def Prob.a1 (p : Prob) : St := ⟨p.T0, red p.m p.D1 p.T0 p.un, p.un, false⟩
noncomputable def Prob.s1 (p : Prob) : St := fin p.m p.W p.art p.a1
noncomputable def Prob.x1 (p : Prob) : St := exL p p.s1 p.m
noncomputable def Prob.a2 (p : Prob) : St := ⟨p.x1.R, red p.m p.D2 p.x1.R p.x1.b, p.x1.b, false⟩
noncomputable def Prob.s2 (p : Prob) : St := fin p.m p.W p.art p.a2
noncomputable def Prob.sol (p : Prob) : Out := by
 classical
 exact if p.s1.C p.W ≠ 0 then .inf (p.mult p.D1 p.s1.C) else if entL p.s2.C p.s2.stalled p.art = none then .opt (p.s2.C p.W) (pt p.m p.W p.s2.R p.s2.b) (p.mult p.D2 p.s2.C) else .unb
theorem Prob.way1 (hv : p.Vrel) : Way p.m p.W p.art p.T0 p.un p.D1 p.a1 := ⟨Prob.inv0 hv _, Prob.T0_fea hv⟩
theorem Prob.stops1 (hv : p.Vrel) : ∃ N, it p.m p.W p.art N p.a1 = some p.s1 ∧ nxt p.m p.W p.art p.s1 = none := by
 obtain ⟨N, s, h1, h2⟩ := stops (Prob.way1 hv) p.art_le (fun k hk => Prob.un_lt hv hk)
 have := fin_eq h1 h2
 refine ⟨N, ?_, ?_⟩
 ·unfold Prob.s1; rw [this]; exact h1
 ·unfold Prob.s1; rw [this]; exact h2
theorem Way.keep {m W art : Nat} {A : Nat → Nat → Rat} {u : Nat → Nat} {D : Nat → Rat} (ha : art ≤ W) {s s' : St} (h : Way m W art A u D s) (hn : nxt m W art s = some s') : Way m W art A u D s' := by
 obtain ⟨c, r, hc, hr, rfl⟩ := qx0 hn
 exact h.next ha hc hr
theorem Prob.end1 (hv : p.Vrel) : Way p.m p.W p.art p.T0 p.un p.D1 p.s1 := by
 obtain ⟨N, h1, _⟩ := Prob.stops1 hv
 exact it_keep (P := fun s => Way p.m p.W p.art p.T0 p.un p.D1 s) (fun s s' h hn => Way.keep p.art_le h hn) (Prob.way1 hv) h1
theorem Prob.exp1 (hv : p.Vrel) (h0 : p.s1.C p.W = 0) : ∀ i, i ≤ p.m → ExI p p.D1 (exL p p.s1 i) i :=
 ExI.all ⟨Prob.end1 hv, Prob.zart1 (Prob.end1 hv) h0, fun k hk => absurd hk (Nat.not_lt_zero _)⟩
theorem Prob.way2 (hv : p.Vrel) (h0 : p.s1.C p.W = 0) : ExI p p.D2 p.a2 p.m := by
 have h := Prob.exp1 hv h0 p.m (Nat.le_refl _)
 exact ⟨⟨h.way.inv.aim _, h.way.fea⟩, h.zart, h.emp⟩
theorem Prob.stops2 (hv : p.Vrel) (h0 : p.s1.C p.W = 0) : ∃ N, it p.m p.W p.art N p.a2 = some p.s2 ∧ nxt p.m p.W p.art p.s2 = none := by
 obtain ⟨N, s, h1, h2⟩ := stops (Prob.way2 hv h0).way p.art_le (fun k hk => Prob.un_lt hv hk)
 have := fin_eq h1 h2
 refine ⟨N, ?_, ?_⟩
 ·unfold Prob.s2; rw [this]; exact h1
 ·unfold Prob.s2; rw [this]; exact h2
theorem Prob.end2 (hv : p.Vrel) (h0 : p.s1.C p.W = 0) : ExI p p.D2 p.s2 p.m := by
 obtain ⟨N, h1, _⟩ := Prob.stops2 hv h0
 exact it_keep (P := fun s => ExI p p.D2 s p.m) (fun s s' h hn => h.next hn) (Prob.way2 hv h0) h1
theorem Prob.sol_ans (hv : p.Vrel) : p.Ans p.sol := by
 unfold Prob.sol
 by_cases h0 : p.s1.C p.W ≠ 0
 ·rw [if_pos h0]
  obtain ⟨_, _, hn⟩ := Prob.stops1 hv
  exact Prob.refutes1 hv (Prob.end1 hv) hn h0
 ·rw [if_neg h0]
  have h0' : p.s1.C p.W = 0 := Classical.not_not.1 h0
  have hE := Prob.end2 hv h0'
  obtain ⟨_, _, hn⟩ := Prob.stops2 hv h0'
  by_cases he : entL p.s2.C p.s2.stalled p.art = none
  ·rw [if_pos he]
   obtain ⟨h1, h2⟩ := hE.feas hv
   exact ⟨h1, h2, hE.optimal hv he⟩
  ·rw [if_neg he]
   intro M
   cases e : entL p.s2.C p.s2.stalled p.art with
   | none => exact absurd e he
   | some c =>
     unfold nxt at hn
     rw [e] at hn
     simp only at hn
     cases hl : q45 p.s2.R p.W p.s2.b c p.m with
     | some r => rw [hl] at hn; cases hn
     | none => exact hE.unbounded hv e hl M
end
theorem Mag.sum {P : Nat → Rat → Prop} (hP : Mag P) {c : Nat} : ∀ (n : Nat) {f : Nat → Rat}, (∀ j, j < n → P c (f j)) → P (1 + n * (c + 1)) (sm n f) := by
 intro n
 induction n with
 | zero => intro f _; exact hP.zero (by omega)
 | succ n ih =>
   intro f h
   have h1 := hP.add (ih (fun j hj => h j (by omega))) (h n (by omega))
   exact hP.mono (by rw [Nat.add_mul, Nat.one_mul]; omega) h1
theorem cnt_one (n a : Nat) (q : Nat → Bool) : cnt n (fun c => q c || a == c) ≤ cnt n q + 1 ∧ (n ≤ a → cnt n (fun c => q c || a == c) = cnt n q) := by
 induction n with
 | zero => exact ⟨Nat.zero_le _, fun _ => rfl⟩
 | succ n ih =>
   have e1 : cnt (n + 1) (fun c => q c || a == c) = cnt n (fun c => q c || a == c) + if (q n || a == n) = true then 1 else 0 := rfl
   have e2 : cnt (n + 1) q = cnt n q + if q n = true then 1 else 0 := rfl
   rw [e1, e2]
   by_cases h : a = n
   ·have := ih.2 (by omega)
    refine ⟨?_, fun h' => by omega⟩
    rw [this]; split <;> split <;> omega
   ·have h' : (a == n) = false := by simpa using h
    rw [h', Bool.or_false]
    exact ⟨by have := ih.1; omega, fun hle => by rw [ih.2 (by omega)]⟩
theorem cnt_rng (n : Nat) (b : Nat → Nat) : ∀ m, cnt n (fun c => rng m b c) ≤ m := by
 intro m
 induction m with
 | zero =>
   have : ∀ n, cnt n (fun c => rng 0 b c) = 0 := fun n => by
    induction n with
    | zero => rfl
    | succ n ih => show cnt n _ + _ = 0; rw [ih]; rfl
   rw [this]; exact Nat.le_refl _
 | succ m ih =>
   have e : cnt n (fun c => rng (m + 1) b c) = cnt n (fun c => rng m b c || b m == c) := cnt_congr fun c _ => by
    unfold rng
    rw [List.range_succ, List.any_append]; simp
   rw [e]
   have := (cnt_one n (b m) (fun c => rng m b c)).1
   omega
section
variable {p : Prob} {D C : Nat → Rat} {R : Nat → Nat → Rat} {b : Nat → Nat}
def Prob.alt (p : Prob) (b : Nat → Nat) (i : Nat) : Bool := decide (p.rel i ≠ 2) && decide (p.dir i ≠ 1) && rng p.m b (p.sl i)
def Prob.un' (p : Prob) (b : Nat → Nat) (i : Nat) : Nat := if p.alt b i = true then p.sl i else p.un i
def Prob.T0' (p : Prob) (b : Nat → Nat) (i j : Nat) : Rat := if j = p.W then 0 else if p.alt b i = true then -p.T0 i j else p.T0 i j
theorem Prob.alt_iff {i : Nat} : p.alt b i = true ↔ p.rel i ≠ 2 ∧ p.dir i ≠ 1 ∧ rng p.m b (p.sl i) = true := by
 unfold Prob.alt; simp [and_assoc]
theorem Prob.T0'_ne {i j : Nat} (h : j ≠ p.W) : p.T0' b i j = if p.alt b i = true then -p.T0 i j else p.T0 i j := by unfold Prob.T0'; rw [if_neg h]
theorem Prob.R_sl (h : Inv p.m p.W p.T0 p.un D R C b) {i k : Nat} (hi : i < p.m) (hk : k < p.m) (hr : p.rel k ≠ 2) (hd : p.dir k ≠ 1) : R i (p.sl k) = -R i (p.un k) := by
 have h1 := Prob.sl_lt hk hr
 have h2 := p.art_le
 rw [h.M i hi (p.sl k) (by omega), qfn hk (fun l _ hne => by rw [Prob.T0_sl hk hr, if_neg hne]; exact Rat.mul_zero _), Prob.T0_sl hk hr, if_pos rfl, if_neg hd]
 grind
theorem Prob.can (hv : p.Vrel) (h : Inv p.m p.W p.T0 p.un D R C b) : Can p.m p.W (p.T0' b) (p.un' b) (fun i j => if j = p.W then 0 else R i j) b := by
 have hun : ∀ i, i < p.m → p.un' b i < p.W := fun i hi => by
  unfold Prob.un'
  split
  ·next ha => have := Prob.sl_lt hi (Prob.alt_iff.1 ha).1; have := p.art_le; omega
  ·exact Prob.un_lt hv hi
 refine ⟨h.bW, hun, ?_, ?_, ?_, ?_⟩
 ·intro k hk l hl
  rw [Prob.T0'_ne (by have := hun l hl; omega)]
  cases ha : p.alt b l with
  | true =>
    obtain ⟨a1, a2, _⟩ := Prob.alt_iff.1 ha
    have e : p.un' b l = p.sl l := by unfold Prob.un'; rw [if_pos ha]
    rw [e, Prob.T0_sl hl a1, if_neg a2]
    by_cases hkl : k = l
    ·subst hkl; rw [ha]; simp
    ·rw [if_neg hkl, if_neg hkl]; split <;> grind
  | false =>
    have e : p.un' b l = p.un l := by unfold Prob.un'; rw [ha]; rfl
    rw [e, Prob.T0_un hv hk hl]
    by_cases hkl : k = l
    ·subst hkl; rw [ha]; simp
    ·rw [if_neg hkl]; split <;> grind
 ·intro k hk l hl
  show (if b l = p.W then 0 else R k (b l)) = _
  rw [if_neg (by have := h.bW l hl; omega)]
  exact h.U k hk l hl
 ·intro i hi j hj
  show (if j = p.W then 0 else R i j) = sm p.m (fun k => (if p.un' b k = p.W then 0 else R i (p.un' b k)) * p.T0' b k j)
  by_cases ej : j = p.W
  ·rw [if_pos ej]
   exact (qr4 fun k _ => by unfold Prob.T0'; rw [if_pos ej]; exact Rat.mul_zero _).symm
  ·rw [if_neg ej, h.M i hi j hj]
   refine que fun k hk => ?_
   rw [if_neg (by have := hun k hk; omega), Prob.T0'_ne ej]
   cases ha : p.alt b k with
   | true =>
     obtain ⟨a1, a2, _⟩ := Prob.alt_iff.1 ha
     have e : p.un' b k = p.sl k := by unfold Prob.un'; rw [if_pos ha]
     rw [e, Prob.R_sl h hi hk a1 a2, if_pos rfl]; grind
   | false =>
     have e : p.un' b k = p.un k := by unfold Prob.un'; rw [ha]; rfl
     rw [e]; rfl
 ·intro i hi j hj
  show p.T0' b i j = sm p.m (fun k => p.T0' b i (b k) * (if j = p.W then 0 else R k j))
  by_cases ej : j = p.W
  ·unfold Prob.T0'
   rw [if_pos ej]
   exact (qr4 fun k _ => by rw [if_pos ej]; exact Rat.mul_zero _).symm
  ·rw [Prob.T0'_ne ej]
   have e1 : ∀ k, k < p.m → p.T0' b i (b k) * (if j = p.W then 0 else R k j) = (if p.alt b i = true then -1 else 1) * (p.T0 i (b k) * R k j) := fun k hk => by
    rw [if_neg ej, Prob.T0'_ne (by have := h.bW k hk; omega)]
    split <;> grind
   rw [que e1, q1q, ← h.J i hi j hj]
   split <;> grind
theorem Prob.can_r (hv : p.Vrel) (h : Inv p.m p.W p.T0 p.un D R C b) : ∀ l, l < p.m → rng p.m (p.un' b) (b l) = true ∨ b l < p.n := by
 intro l hl
 rcases p.column (h.bW l hl) with h1 | ⟨i, hi, h2, h3⟩ | ⟨i, hi, h2, h3⟩
 ·exact .inr h1
 ·left
  refine rng_iff.2 ⟨i, hi, ?_⟩
  unfold Prob.un'
  split
  ·exact h3.symm
  ·next ha =>
   have hd : p.dir i = 1 := by
    refine Classical.byContradiction fun hd => ha ?_
    exact Prob.alt_iff.2 ⟨h2, hd, rng_iff.2 ⟨l, hl, h3⟩⟩
   unfold Prob.un; rw [if_pos hd]; exact h3.symm
 ·left
  refine rng_iff.2 ⟨i, hi, ?_⟩
  have hu : p.un i = p.ar i := by unfold Prob.un; rw [if_neg h2]
  unfold Prob.un'
  split
  ·next ha =>
   exfalso
   obtain ⟨a1, a2, a3⟩ := Prob.alt_iff.1 ha
   obtain ⟨k, hk, hbk⟩ := rng_iff.1 a3
   have e1 := h.U l hl l hl
   have e2 := h.U l hl k hk
   rw [hbk, Prob.R_sl h hl hi a1 a2, hu, ← h3, e1, if_pos rfl] at e2
   split at e2 <;> exact absurd e2 (by decide)
  ·rw [hu]; exact h3.symm
theorem Prob.bnd {P : Nat → Rat → Prop} (hP : Mag P) (hv : p.Vrel) (h : Inv p.m p.W p.T0 p.un D R C b) {k h0 : Nat} (hk : p.n ≤ k ∨ p.m ≤ k) (hp0 : 0 < h0) (hA : ∀ i, i < p.m → ∀ j, j < p.W → P h0 (p.T0 i j)) : ∀ i, i < p.m → ∀ j, j < p.W → P (grow k h0) (R i j) := by
 intro i hi j hj
 have h1 := Can.bound hP k h0 (p.T0' b) (p.un' b) p.n (Prob.can hv h) (fun i hi j hj => by
  unfold Prob.T0'
  split
  ·exact hP.zero hp0
  ·split
   ·exact hP.neg (hA i hi j (by omega))
   ·exact hA i hi j (by omega)) (Prob.can_r hv h) ?_ i hi j (by omega)
 ·rw [if_neg (by omega)] at h1; exact h1
 ·rcases hk with hk | hk
  ·exact Nat.le_trans (qvg _ _) hk
  ·refine Nat.le_trans (cnt_mono (q := fun c => rng p.m b c) fun c _ h1 => ?_) (Nat.le_trans (cnt_rng p.n b p.m) hk)
   rw [Bool.and_eq_true] at h1; exact h1.1
def bK2 (m k h hr : Nat) : Nat := grow k h + (1 + m * (grow k h + hr + 1))
def bK3 (m k h hr hd : Nat) : Nat := bK2 m k h hr + hd + (1 + m * (hd + bK2 m k h hr + 1)) + 1
theorem bK2_ge (m k h hr : Nat) : grow k h ≤ bK2 m k h hr := by unfold bK2; omega
theorem bK3_ge (m k h hr hd : Nat) : bK2 m k h hr ≤ bK3 m k h hr hd ∧ hd ≤ bK3 m k h hr hd := by unfold bK3; omega
theorem Prob.bnd2 {P : Nat → Rat → Prop} (hP : Mag P) (hv : p.Vrel) (h : Inv p.m p.W p.T0 p.un D R C b) {k h0 hr : Nat} (hk : p.n ≤ k ∨ p.m ≤ k) (hp0 : 0 < h0) (hA : ∀ i, i < p.m → ∀ j, j < p.W → P h0 (p.T0 i j)) (hW : ∀ i, i < p.m → P hr (p.T0 i p.W)) : ∀ i, i < p.m → ∀ j, j ≤ p.W → P (bK2 p.m k h0 hr) (R i j) := by
 intro i hi j hj
 have h1 := Prob.bnd hP hv h hk hp0 hA
 by_cases e : j = p.W
 ·subst e
  rw [h.M i hi p.W (Nat.le_refl _)]
  exact hP.mono (by unfold bK2; omega) (hP.sum p.m (c := grow k h0 + hr) (fun l hl => hP.mul (h1 i hi _ (Prob.un_lt hv hl)) (hW l hl)))
 ·exact hP.mono (bK2_ge _ _ _ _) (h1 i hi j (by omega))
theorem Prob.bndR {P : Nat → Rat → Prop} (hP : Mag P) (hv : p.Vrel) (h : Inv p.m p.W p.T0 p.un D R C b) {D' : Nat → Rat} {k h0 hr hd i : Nat} (hi : i ≤ p.m) (hk : p.n ≤ k ∨ p.m ≤ k) (hp0 : 0 < h0) (hA : ∀ i, i < p.m → ∀ j, j < p.W → P h0 (p.T0 i j)) (hW : ∀ i, i < p.m → P hr (p.T0 i p.W)) (hD : ∀ j, j ≤ p.W → P hd (D' j)) : ∀ j, j ≤ p.W → P (bK3 p.m k h0 hr hd) (red i D' R b j) := by
 intro j hj
 have h1 := Prob.bnd2 hP hv h hk hp0 hA hW
 have h2 := hP.sum i (c := hd + bK2 p.m k h0 hr) (f := fun l => D' (b l) * R l j) (fun l hl => hP.mul (hD _ (Nat.le_of_lt (h.bW l (by omega)))) (h1 l (by omega) j hj))
 have h3 := hP.sub (hD j hj) h2
 refine hP.mono ?_ h3
 have : i * (hd + bK2 p.m k h0 hr + 1) ≤ p.m * (hd + bK2 p.m k h0 hr + 1) := Nat.mul_le_mul_right _ hi
 unfold bK3; omega
theorem Prob.bnd3 {P : Nat → Rat → Prop} (hP : Mag P) (hv : p.Vrel) (h : Inv p.m p.W p.T0 p.un D R C b) {k h0 hr hd : Nat} (hk : p.n ≤ k ∨ p.m ≤ k) (hp0 : 0 < h0) (hA : ∀ i, i < p.m → ∀ j, j < p.W → P h0 (p.T0 i j)) (hW : ∀ i, i < p.m → P hr (p.T0 i p.W)) (hD : ∀ j, j ≤ p.W → P hd (D j)) : ∀ j, j ≤ p.W → P (bK3 p.m k h0 hr hd) (C j) := by
 intro j hj
 have e : C j = red p.m D R b j := by have := h.CJ j hj; unfold red; grind
 rw [e]
 exact Prob.bndR hP hv h (Nat.le_refl _) hk hp0 hA hW hD j hj
theorem Prob.T0_bnd {P : Nat → Rat → Prop} (hP : Mag P) {h0 : Nat} (hp0 : 0 < h0) (h1 : P h0 1) (hc : ∀ i, i < p.m → ∀ j, j < p.n → P h0 (p.coef i j)) : ∀ i, i < p.m → ∀ j, j < p.W → P h0 (p.T0 i j) := by
 intro i hi j hj
 unfold Prob.T0
 rw [if_neg (by omega)]
 split
 ·next hn =>
  unfold Prob.sg
  split
  ·exact hP.neg (hc i hi j hn)
  ·exact hc i hi j hn
 ·split
  ·split
   ·exact h1
   ·exact hP.neg h1
  ·split
   ·exact h1
   ·exact hP.zero hp0
theorem Prob.T0_bndW {P : Nat → Rat → Prop} (hP : Mag P) {hr : Nat} (hc : ∀ i, i < p.m → P hr (p.right i)) : ∀ i, i < p.m → P hr (p.T0 i p.W) := by
 intro i hi
 rw [Prob.T0_W]
 unfold Prob.sg
 split
 ·exact hP.neg (hc i hi)
 ·exact hc i hi
theorem exL_inv {s : St} (h : Inv p.m p.W p.T0 p.un D s.R s.C s.b) : ∀ i, i ≤ p.m → Inv p.m p.W p.T0 p.un D (exL p s i).R (exL p s i).C (exL p s i).b := by
 intro i
 induction i with
 | zero => intro _; exact h
 | succ i ih =>
   intro hi
   have h1 := ih (by omega)
   show Inv p.m p.W p.T0 p.un D (exS p (exL p s i) i).R (exS p (exL p s i) i).C (exS p (exL p s i) i).b
   unfold exS
   split
   ·exact h1
   ·cases e : fnz ((exL p s i).R i) p.art with
    | none => exact h1
    | some c =>
      obtain ⟨g1, g2, _⟩ := qz6 e
      exact h1.pivot (by omega) (by have := p.art_le; omega) g2
end
def Prob.V (p : Prob) (v : Rat) : Prop := ∃ x, p.Feas x ∧ dot p.n p.obj x = v
def Out.err : Out → Int
 | .opt _ _ _ => 0
 | .inf _ => 17
 | .unb => 18
def Out.val : Out → Rat
 | .opt z _ _ => z
 | _ => 0
def Is (V : Rat → Prop) (e : Int) (z : Rat) : Prop :=
 (e = 0 ∧ V z ∧ ∀ v, V v → v ≤ z) ∨ (e = 17 ∧ z = 0 ∧ ∀ v, ¬ V v) ∨ (e = 18 ∧ z = 0 ∧ ∀ M : Rat, ∃ v, V v ∧ M ≤ v)
theorem Prob.is {p : Prob} (hv : p.Vrel) : Is p.V p.sol.err p.sol.val := by
 have h := Prob.sol_ans hv
 cases e : p.sol with
 | opt z x y =>
   rw [e] at h
   obtain ⟨h1, h2, h3⟩ := h
   refine .inl ⟨rfl, ⟨x, h1, h2⟩, ?_⟩
   rintro v ⟨x', hx', rfl⟩
   exact h3.bound hv hx'
 | inf y =>
   rw [e] at h
   have h : p.Refutes y := h
   refine .inr (.inl ⟨rfl, rfl, ?_⟩)
   rintro v ⟨x', hx', rfl⟩
   exact Prob.Refutes.none (x := x') hv h hx'
 | unb =>
   rw [e] at h
   refine .inr (.inr ⟨rfl, rfl, fun M => ?_⟩)
   obtain ⟨x, h1, h2⟩ := h M
   exact ⟨_, ⟨x, h1, rfl⟩, h2⟩
structure RL where
 coef : List Rat
 rel : Nat
 right : Rat
structure PL where
 obj : List Rat
 rows : List RL
def RL.zero : RL := ⟨[], 0, 0⟩
def PL.toP (p : PL) : Prob := ⟨p.obj.length, p.rows.length, fun j => p.obj.getD j 0, fun i => (p.rows.getD i RL.zero).coef.length, fun i j => (p.rows.getD i RL.zero).coef.getD j 0, fun i => (p.rows.getD i RL.zero).rel, fun i => (p.rows.getD i RL.zero).right⟩
def pos (q : Rat) : Rat := if 0 ≤ q then q else 0
end Go.Proofs.YtljncdcjkdgkeaaGreatDoor.Lp
