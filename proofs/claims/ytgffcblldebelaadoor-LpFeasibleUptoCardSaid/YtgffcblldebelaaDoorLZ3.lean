/- Plain: the reference of LpSmall answers as the linear program does. -/
import Derived.Test.YtgffcblldebelaaDoorLZ2
set_option linter.unusedVariables false
set_option linter.unusedSimpArgs false
namespace Go.Proofs.YtgffcblldebelaaDoor.Lp

def RR.rl (r : RR) : RL := ⟨r.coef.map (fun z : Int => (z : Rat)), r.rel, (r.right : Rat)⟩
def RP.pl (p : RP) : PL := ⟨p.obj.map (fun z : Int => (z : Rat)), p.rows.map RR.rl⟩
structure RP.ok (p : RP) (m : Nat) : Prop where
  n1 : 1 ≤ p.obj.length
  n3 : p.obj.length ≤ 3
  m5 : p.rows.length ≤ m
  row : ∀ r ∈ p.rows, r.coef.length = p.obj.length ∧ 1 ≤ r.rel ∧ r.rel ≤ 3
theorem castL_get (l : List Int) (j : Nat) : (l.map (fun z : Int => (z : Rat))).getD j 0 = ((l.getD j 0 : Int) : Rat) := by
  rw [List.getD_eq_getElem?_getD, List.getElem?_map, List.getD_eq_getElem?_getD]
  cases l[j]? <;> rfl
theorem RP.n (p : RP) : p.pl.toP.n = p.obj.length := by show (p.obj.map _).length = _; simp
theorem RP.m (p : RP) : p.pl.toP.m = p.rows.length := by show (p.rows.map _).length = _; simp
theorem RP.rowD (p : RP) (i : Nat) : p.pl.rows.getD i RL.zero = (p.rows.getD i ⟨[], 0, 0⟩).rl := by
  show (p.rows.map RR.rl).getD i RL.zero = _
  rw [List.getD_eq_getElem?_getD, List.getElem?_map, List.getD_eq_getElem?_getD]
  cases p.rows[i]? <;> rfl
theorem RP.ok.valid {p : RP} {m : Nat} (h : p.ok m) (hm : m ≤ 1000) : p.pl.valid = true := by
  refine PL.valid_iff.2 ⟨by show 1 ≤ (p.obj.map _).length; rw [List.length_map]; exact h.n1, by show (p.obj.map _).length ≤ _; rw [List.length_map]; have := h.n3; omega, by show (p.rows.map _).length ≤ _; rw [List.length_map]; have := h.m5; omega, fun r hr => ?_⟩
  obtain ⟨s, hs, rfl⟩ := List.mem_map.1 hr
  have h1 := h.row s hs
  refine ⟨?_, h1.2⟩
  show (s.coef.map _).length = (p.obj.map _).length
  rw [List.length_map, List.length_map]; exact h1.1
theorem RP.left_row (p : RP) {i : Nat} (hi : i < p.rows.length) : p.left.getD i [] = (p.rows.getD i ⟨[], 0, 0⟩).coef := by
  unfold RP.left
  rw [List.getD_eq_getElem?_getD, List.getElem?_append_left (by simpa using hi), List.getElem?_map, List.getD_eq_getElem?_getD, List.getElem?_eq_getElem hi]; rfl
theorem RP.left_unit (p : RP) {j : Nat} (hj : j < p.obj.length) : p.left.getD (p.rows.length + j) [] = unitI p.obj.length j := by
  unfold RP.left
  rw [List.getD_eq_getElem?_getD, List.getElem?_append_right (by simp), List.length_map, show p.rows.length + j - p.rows.length = j by omega, List.getElem?_map, List.getElem?_range hj]; rfl
theorem RP.rhs_row (p : RP) {i : Nat} (hi : i < p.rows.length) : p.rhs.getD i 0 = (p.rows.getD i ⟨[], 0, 0⟩).right := by
  unfold RP.rhs
  rw [List.getD_eq_getElem?_getD, List.getElem?_append_left (by simpa using hi), List.getElem?_map, List.getD_eq_getElem?_getD, List.getElem?_eq_getElem hi]; rfl
theorem RP.rhs_unit (p : RP) (j : Nat) : p.rhs.getD (p.rows.length + j) 0 = 0 := by
  unfold RP.rhs
  rw [List.getD_eq_getElem?_getD, List.getElem?_append_right (by simp), List.length_map, show p.rows.length + j - p.rows.length = j by omega, List.getElem?_replicate]
  split <;> rfl
theorem unitI_get {n j k : Nat} (hk : k < n) : (unitI n j).getD k 0 = if k = j then 1 else 0 := by
  unfold unitI
  rw [List.getD_eq_getElem?_getD, List.getElem?_map, List.getElem?_range hk]; rfl
theorem unitI_len (n j : Nat) : (unitI n j).length = n := by unfold unitI; simp
theorem RP.pln {p : RP} {i j : Nat} (hi : i < p.rows.length + p.obj.length) (hj : j < p.obj.length) : p.pl.toP.pln i j = (((p.left.getD i []).getD j 0 : Int) : Rat) := by
  unfold Prob.pln
  rw [p.m]
  by_cases h : i < p.rows.length
  · rw [if_pos h, p.left_row h]
    show (p.pl.rows.getD i RL.zero).coef.getD j 0 = _
    rw [p.rowD]
    exact castL_get _ _
  · rw [if_neg h]
    obtain ⟨k, rfl⟩ : ∃ k, i = p.rows.length + k := ⟨i - p.rows.length, by omega⟩
    rw [p.left_unit (by omega), unitI_get hj, show p.rows.length + k - p.rows.length = k by omega]
    show (if j = k then (1 : Rat) else 0) = _
    split <;> rfl
theorem RP.plr {p : RP} {i : Nat} (hi : i < p.rows.length + p.obj.length) : p.pl.toP.plr i = ((p.rhs.getD i 0 : Int) : Rat) := by
  unfold Prob.plr
  rw [p.m]
  by_cases h : i < p.rows.length
  · rw [if_pos h, p.rhs_row h]
    show (p.pl.rows.getD i RL.zero).right = _
    rw [p.rowD]; rfl
  · rw [if_neg h]
    obtain ⟨k, rfl⟩ : ∃ k, i = p.rows.length + k := ⟨i - p.rows.length, by omega⟩
    rw [p.rhs_unit]; rfl
theorem RP.left_len {p : RP} {M : Nat} (h : p.ok M) {i : Nat} (hi : i < p.rows.length + p.obj.length) : (p.left.getD i []).length = p.obj.length := by
  by_cases hlt : i < p.rows.length
  · rw [p.left_row hlt, List.getD_eq_getElem?_getD, List.getElem?_eq_getElem hlt]
    exact (h.row _ (List.getElem_mem hlt)).1
  · obtain ⟨k, rfl⟩ : ∃ k, i = p.rows.length + k := ⟨i - p.rows.length, by omega⟩
    rw [p.left_unit (by omega), unitI_len]
/-! determinants -/
theorem det1 (a : List Int) : detN 1 [a] = a.getD 0 0 := by
  show 0 + sgI 0 * a.getD 0 0 * 1 = _
  rw [show sgI 0 = 1 from rfl]; omega
theorem det2 (a b : List Int) : detN 2 [a, b] = a.getD 0 0 * b.getD 1 0 - a.getD 1 0 * b.getD 0 0 := by
  show (0 + sgI 0 * a.getD 0 0 * detN 1 [[b.getD 1 0]]) + sgI 1 * a.getD 1 0 * detN 1 [[b.getD 0 0]] = _
  rw [det1, det1, show sgI 0 = 1 from rfl, show sgI 1 = -1 from rfl, show ([b.getD 1 0] : List Int).getD 0 0 = b.getD 1 0 from rfl, show ([b.getD 0 0] : List Int).getD 0 0 = b.getD 0 0 from rfl]
  grind
theorem det3 (a b c : List Int) : detN 3 [a, b, c] = a.getD 0 0 * (b.getD 1 0 * c.getD 2 0 - b.getD 2 0 * c.getD 1 0) - a.getD 1 0 * (b.getD 0 0 * c.getD 2 0 - b.getD 2 0 * c.getD 0 0) + a.getD 2 0 * (b.getD 0 0 * c.getD 1 0 - b.getD 1 0 * c.getD 0 0) := by
  show ((0 + sgI 0 * a.getD 0 0 * detN 2 [[b.getD 1 0, b.getD 2 0], [c.getD 1 0, c.getD 2 0]]) + sgI 1 * a.getD 1 0 * detN 2 [[b.getD 0 0, b.getD 2 0], [c.getD 0 0, c.getD 2 0]]) + sgI 2 * a.getD 2 0 * detN 2 [[b.getD 0 0, b.getD 1 0], [c.getD 0 0, c.getD 1 0]] = _
  rw [det2, det2, det2, show sgI 0 = 1 from rfl, show sgI 1 = -1 from rfl, show sgI 2 = 1 from rfl]
  show ((0 + 1 * a.getD 0 0 * (b.getD 1 0 * c.getD 2 0 - b.getD 2 0 * c.getD 1 0)) + -1 * a.getD 1 0 * (b.getD 0 0 * c.getD 2 0 - b.getD 2 0 * c.getD 0 0)) + 1 * a.getD 2 0 * (b.getD 0 0 * c.getD 1 0 - b.getD 1 0 * c.getD 0 0) = _
  grind
theorem set_get (l : List Int) (j k : Nat) (z : Int) (hj : j < l.length) : (l.set j z).getD k 0 = if k = j then z else l.getD k 0 := by
  rw [List.getD_eq_getElem?_getD, List.getElem?_set, List.getD_eq_getElem?_getD]
  by_cases e : j = k
  · subst e; rw [if_pos rfl, if_pos hj, if_pos rfl]; rfl
  · rw [if_neg e, if_neg (fun h => e h.symm)]
theorem dot1 (a x : Nat → Rat) : dot 1 a x = a 0 * x 0 := by show 0 + a 0 * x 0 = _; grind
theorem dot2 (a x : Nat → Rat) : dot 2 a x = a 0 * x 0 + a 1 * x 1 := by show 0 + a 0 * x 0 + a 1 * x 1 = _; grind
theorem dot3 (a x : Nat → Rat) : dot 3 a x = a 0 * x 0 + a 1 * x 1 + a 2 * x 2 := by show 0 + a 0 * x 0 + a 1 * x 1 + a 2 * x 2 = _; grind
/-- Cramer's rule -/
theorem RP.cramer {p : RP} {M : Nat} (h : p.ok M) {q : List Nat} (hq : q.length = p.obj.length) (hN : ∀ i ∈ q, i < p.rows.length + p.obj.length) {x : Nat → Rat} (hx : ∀ i ∈ q, dot p.obj.length (p.pl.toP.pln i) x = p.pl.toP.plr i) {j : Nat} (hj : j < p.obj.length) :
    ((meetC p.left p.rhs q j : Int) : Rat) = x j * ((meetD p.left q : Int) : Rat) := by
  have hpl : ∀ i ∈ q, ∀ j, j < p.obj.length → p.pl.toP.pln i j = (((p.left.getD i []).getD j 0 : Int) : Rat) := fun i hi j hj => RP.pln (hN i hi) hj
  have hlen : ∀ i ∈ q, (p.left.getD i []).length = p.obj.length := fun i hi => RP.left_len h (hN i hi)
  have hr : ∀ i ∈ q, p.pl.toP.plr i = ((p.rhs.getD i 0 : Int) : Rat) := fun i hi => RP.plr (hN i hi)
  have h1 := h.n1
  have h3 := h.n3
  unfold meetC meetD
  rcases (show p.obj.length = 1 ∨ p.obj.length = 2 ∨ p.obj.length = 3 by omega) with e | e | e
  · rw [e] at hq hj hpl hlen hx
    obtain ⟨a, rfl⟩ := List.length_eq_one_iff.1 hq
    have ha := hx a (by simp)
    rw [dot1, hpl a (by simp) 0 (by omega), hr a (by simp)] at ha
    obtain rfl : j = 0 := by omega
    show ((detN 1 [(p.left.getD a []).set 0 (p.rhs.getD a 0)] : Int) : Rat) = x 0 * ((detN 1 [p.left.getD a []] : Int) : Rat)
    rw [det1, det1, set_get _ _ _ _ (by rw [hlen a (by simp)]; omega), if_pos rfl, ← ha]; grind
  · rw [e] at hq hj hpl hlen hx
    obtain ⟨a, b, rfl⟩ : ∃ a b, q = [a, b] := by
      match q, hq with
      | [a, b], _ => exact ⟨a, b, rfl⟩
    have ha := hx a (by simp)
    have hb := hx b (by simp)
    rw [dot2, hpl a (by simp) 0 (by omega), hpl a (by simp) 1 (by omega), hr a (by simp)] at ha
    rw [dot2, hpl b (by simp) 0 (by omega), hpl b (by simp) 1 (by omega), hr b (by simp)] at hb
    show ((detN 2 [(p.left.getD a []).set j (p.rhs.getD a 0), (p.left.getD b []).set j (p.rhs.getD b 0)] : Int) : Rat) = x j * ((detN 2 [p.left.getD a [], p.left.getD b []] : Int) : Rat)
    have la := hlen a (by simp)
    have lb := hlen b (by simp)
    rw [det2, det2, set_get _ _ _ _ (by omega), set_get _ _ _ _ (by omega), set_get _ _ _ _ (by omega), set_get _ _ _ _ (by omega)]
    push_cast
    rcases (show j = 0 ∨ j = 1 by omega) with rfl | rfl
    · simp only [if_pos, if_neg, Nat.one_ne_zero, if_false, if_true]
      rw [← ha, ← hb]; grind
    · simp only [show ¬ (0 = 1) by omega, if_false, if_true]
      rw [← ha, ← hb]; grind
  · rw [e] at hq hj hpl hlen hx
    obtain ⟨a, b, c, rfl⟩ : ∃ a b c, q = [a, b, c] := by
      match q, hq with
      | [a, b, c], _ => exact ⟨a, b, c, rfl⟩
    have ha := hx a (by simp)
    have hb := hx b (by simp)
    have hc := hx c (by simp)
    rw [dot3, hpl a (by simp) 0 (by omega), hpl a (by simp) 1 (by omega), hpl a (by simp) 2 (by omega), hr a (by simp)] at ha
    rw [dot3, hpl b (by simp) 0 (by omega), hpl b (by simp) 1 (by omega), hpl b (by simp) 2 (by omega), hr b (by simp)] at hb
    rw [dot3, hpl c (by simp) 0 (by omega), hpl c (by simp) 1 (by omega), hpl c (by simp) 2 (by omega), hr c (by simp)] at hc
    show ((detN 3 [(p.left.getD a []).set j (p.rhs.getD a 0), (p.left.getD b []).set j (p.rhs.getD b 0), (p.left.getD c []).set j (p.rhs.getD c 0)] : Int) : Rat) = x j * ((detN 3 [p.left.getD a [], p.left.getD b [], p.left.getD c []] : Int) : Rat)
    have la := hlen a (by simp)
    have lb := hlen b (by simp)
    have lc := hlen c (by simp)
    rw [det3, det3]
    simp only [set_get (p.left.getD a []) _ _ _ (show j < _ by omega), set_get (p.left.getD b []) _ _ _ (show j < _ by omega), set_get (p.left.getD c []) _ _ _ (show j < _ by omega)]
    push_cast
    rcases (show j = 0 ∨ j = 1 ∨ j = 2 by omega) with rfl | rfl | rfl
    · simp only [show ¬ (1 = 0) by omega, show ¬ (2 = 0) by omega, if_false, if_true]
      rw [← ha, ← hb, ← hc]; grind
    · simp only [show ¬ (0 = 1) by omega, show ¬ (2 = 1) by omega, if_false, if_true]
      rw [← ha, ← hb, ← hc]; grind
    · simp only [show ¬ (0 = 2) by omega, show ¬ (1 = 2) by omega, if_false, if_true]
      rw [← ha, ← hb, ← hc]; grind
theorem meetX_len (left : List (List Int)) (right : List Int) (q : List Nat) : (meetX left right q).length = q.length := by unfold meetX; simp
theorem meetX_get {left : List (List Int)} {right : List Int} {q : List Nat} {j : Nat} (hj : j < q.length) : (meetX left right q).getD j 0 = if meetD left q < 0 then 0 - meetC left right q j else meetC left right q j := by
  unfold meetX
  rw [List.getD_eq_getElem?_getD, List.getElem?_map, List.getElem?_range hj]; rfl
theorem RP.cramerA {p : RP} {M : Nat} (h : p.ok M) {q : List Nat} (hq : q.length = p.obj.length) (hN : ∀ i ∈ q, i < p.rows.length + p.obj.length) {x : Nat → Rat} (hx : ∀ i ∈ q, dot p.obj.length (p.pl.toP.pln i) x = p.pl.toP.plr i) {j : Nat} (hj : j < p.obj.length) :
    (((meetX p.left p.rhs q).getD j 0 : Int) : Rat) = x j * ((meetA p.left q : Int) : Rat) := by
  have h1 := RP.cramer h hq hN hx hj
  rw [meetX_get (by omega)]
  unfold meetA
  split
  · push_cast
    rw [h1]; grind
  · exact h1
theorem holdsI_iff {rel : Nat} {l r : Int} : holdsI rel l r = true ↔ Holds rel (l : Rat) (r : Rat) := by
  unfold holdsI Holds
  have e1 : ((l : Rat) ≤ (r : Rat)) ↔ l ≤ r := Rat.intCast_le_intCast
  have e2 : ((r : Rat) ≤ (l : Rat)) ↔ r ≤ l := Rat.intCast_le_intCast
  have e3 : ((l : Rat) = (r : Rat)) ↔ l = r := Rat.intCast_inj
  rw [e1, e2, e3]
  simp only [Bool.not_eq_true', Bool.or_eq_false_iff, Bool.and_eq_false_imp, beq_iff_eq, bne_eq_false_iff_eq, decide_eq_false_iff_not, Int.not_lt, and_assoc]
theorem dotI_cast {a b : List Int} {n : Nat} (ha : a.length = n) (hb : b.length = n) : ((dotI a b : Int) : Rat) = sm n (fun j => ((a.getD j 0 : Int) : Rat) * ((b.getD j 0 : Int) : Rat)) := by
  unfold dotI
  rw [ha, hb, Nat.min_self, smI_cast]
  exact sm_congr fun j _ => by push_cast; rfl
theorem dotI_at {a b : List Int} {n : Nat} {x : Nat → Rat} {d : Int} (ha : a.length = n) (hb : b.length = n) (hx : ∀ j, j < n → ((b.getD j 0 : Int) : Rat) = x j * (d : Rat)) : ((dotI a b : Int) : Rat) = dot n (fun j => ((a.getD j 0 : Int) : Rat)) x * (d : Rat) := by
  rw [dotI_cast ha hb]
  unfold dot
  rw [Rat.mul_comm, ← sm_mul]
  exact sm_congr fun j hj => by rw [hx j hj]; grind
theorem RP.coef {p : RP} {i : Nat} (j : Nat) : p.pl.toP.coef i j = (((p.rows.getD i ⟨[], 0, 0⟩).coef.getD j 0 : Int) : Rat) := by
  show (p.pl.rows.getD i RL.zero).coef.getD j 0 = _
  rw [p.rowD]
  exact castL_get _ _
theorem RP.feas_iff {p : RP} {M : Nat} (h : p.ok M) {xs : List Int} {d : Int} {x : Nat → Rat} (hd : 0 < d) (hl : xs.length = p.obj.length) (hx : ∀ j, j < p.obj.length → ((xs.getD j 0 : Int) : Rat) = x j * (d : Rat)) : p.feas xs d = true ↔ p.pl.toP.Feas x := by
  have hdq : (0 : Rat) < (d : Rat) := Rat.intCast_pos.2 hd
  unfold RP.feas Prob.Feas
  rw [Bool.and_eq_true, List.all_eq_true, List.all_eq_true, p.n, p.m]
  refine and_congr ⟨fun h1 j hj => ?_, fun h1 z hz => ?_⟩ ⟨fun h1 i hi => ?_, fun h1 r hr => ?_⟩
  · have h2 := h1 _ (List.getElem_mem (show j < xs.length by omega))
    have h3 := hx j hj
    rw [List.getD_eq_getElem?_getD, List.getElem?_eq_getElem (by omega)] at h3
    have h4 : (0 : Rat) ≤ ((xs[j]'(by omega) : Int) : Rat) := Rat.intCast_nonneg.2 (by simpa using h2)
    refine Rat.not_lt.1 fun hn => ?_
    have h5 : 0 < -x j * (d : Rat) := Rat.mul_pos (by grind) hdq
    have h6 : ((xs[j]'(by omega) : Int) : Rat) = x j * (d : Rat) := h3
    grind
  · obtain ⟨j, hj, rfl⟩ := List.mem_iff_getElem.1 hz
    have h3 := hx j (by omega)
    rw [List.getD_eq_getElem?_getD, List.getElem?_eq_getElem hj] at h3
    have h6 : ((xs[j] : Int) : Rat) = x j * (d : Rat) := h3
    have h5 := Rat.mul_nonneg (h1 j (by omega)) (Rat.le_of_lt hdq)
    rw [← h6] at h5
    simpa using Rat.intCast_nonneg.1 h5
  · have hmem := List.getElem_mem hi
    have h2 := h1 _ hmem
    rw [holdsI_iff, dotI_at (h.row _ hmem).1 hl hx] at h2
    push_cast at h2
    have h2 := (Holds.pos hdq).1 h2
    have e0 : p.rows.getD i ⟨[], 0, 0⟩ = p.rows[i] := by rw [List.getD_eq_getElem?_getD, List.getElem?_eq_getElem hi]; rfl
    show Holds (p.pl.rows.getD i RL.zero).rel (dot p.obj.length (p.pl.toP.coef i) x) (p.pl.rows.getD i RL.zero).right
    have e1 : p.pl.toP.coef i = fun j => ((p.rows[i].coef.getD j 0 : Int) : Rat) := by funext j; rw [RP.coef, e0]
    rw [p.rowD, e0, e1]
    exact h2
  · obtain ⟨i, hi, rfl⟩ := List.mem_iff_getElem.1 hr
    have h2 : Holds (p.pl.rows.getD i RL.zero).rel (dot p.obj.length (p.pl.toP.coef i) x) (p.pl.rows.getD i RL.zero).right := h1 i hi
    have e0 : p.rows.getD i ⟨[], 0, 0⟩ = p.rows[i] := by rw [List.getD_eq_getElem?_getD, List.getElem?_eq_getElem hi]; rfl
    have e1 : p.pl.toP.coef i = fun j => ((p.rows[i].coef.getD j 0 : Int) : Rat) := by funext j; rw [RP.coef, e0]
    rw [p.rowD, e0, e1] at h2
    rw [holdsI_iff, dotI_at (h.row _ hr).1 hl hx]
    push_cast
    exact (Holds.pos hdq).2 h2
end Go.Proofs.YtgffcblldebelaaDoor.Lp
