/- Plain: the integer points of a boxed problem of the laws of ilp, and the greatest objective among them. Walks: dot, holds and the closure of boxed (laws of ilp). Rows of a problem of the laws' own: lists of rows that are appended to. Walk: boxed of the laws of ilp. -/
import Derived.Test.YthafabkjidifeaaIPL
import Derived.Deep.LoopGhost
set_option linter.unusedVariables false
set_option linter.unusedSimpArgs false
namespace Go.Proofs.Ythafabkjidifeaa.Lp
open Go.RowKit Go.Proofs.Ythafabkjidifeaa.Big Go.Proofs.Ythafabkjidifeaa.Rt

def sumZ : Nat → (Nat → Int) → Int
  | 0, _ => 0
  | n + 1, f => sumZ n f + f n
theorem sumZ_cast (n : Nat) (f : Nat → Int) : ((sumZ n f : Int) : Rat) = sm n (fun j => (f j : Rat)) := by
  induction n with
  | zero => rfl
  | succ n ih => show ((sumZ n f + f n : Int) : Rat) = sm n (fun j => (f j : Rat)) + (f n : Rat); rw [← ih, Rat.intCast_add]
theorem sumZ_congr {n : Nat} {f g : Nat → Int} (h : ∀ j, j < n → f j = g j) : sumZ n f = sumZ n g := by
  induction n with
  | zero => rfl
  | succ n ih =>
    show sumZ n f + f n = sumZ n g + g n
    rw [ih (fun j hj => h j (by omega)), h n (by omega)]
theorem sumZ_le {C : Int} {n : Nat} {f : Nat → Int} (h : ∀ j, j < n → -C ≤ f j ∧ f j ≤ C) : -(n * C) ≤ sumZ n f ∧ sumZ n f ≤ n * C := by
  induction n with
  | zero => show -((0 : Nat) * C : Int) ≤ 0 ∧ 0 ≤ ((0 : Nat) * C : Int); simp
  | succ n ih =>
    have h1 := ih (fun j hj => h j (by omega))
    have h2 := h n (by omega)
    show -(((n + 1 : Nat) : Int) * C) ≤ sumZ n f + f n ∧ sumZ n f + f n ≤ ((n + 1 : Nat) : Int) * C
    have e : (((n + 1 : Nat) : Int) * C) = n * C + C := by rw [Int.natCast_add, Int.add_mul]; simp
    omega
/-- a row's left side at an integer point -/
def dotZ (c : List Int) (n : Nat) (x : Nat → Int) : Int := sumZ n (fun j => c.getD j 0 * x j)
theorem dotZ_congr {c : List Int} {n : Nat} {x y : Nat → Int} (h : ∀ j, j < n → x j = y j) : dotZ c n x = dotZ c n y := sumZ_congr fun j hj => by rw [h j hj]
def relZ (rel : Nat) (a b : Int) : Bool := !((rel == 1 && decide (b < a)) || (rel == 2 && (a != b)) || (rel == 3 && decide (a < b)))
def IRow.holdZ (r : IRow) (n : Nat) (x : Nat → Int) : Bool := relZ r.rel (dotZ r.coef n x) r.right
def holdsZ (R : List IRow) (n : Nat) (x : Nat → Int) : Bool := R.all (fun r => r.holdZ n x)
theorem holdsZ_congr {R : List IRow} {n : Nat} {x y : Nat → Int} (h : ∀ j, j < n → x j = y j) : holdsZ R n x = holdsZ R n y := by
  unfold holdsZ IRow.holdZ
  congr 1
  funext r
  rw [dotZ_congr h]
theorem relZ_iff {rel : Nat} {a b : Int} (h1 : 1 ≤ rel) (h3 : rel ≤ 3) : relZ rel a b = true ↔ Holds rel (a : Rat) (b : Rat) := by
  have c1 : ∀ {a b : Int}, (a : Rat) ≤ (b : Rat) ↔ a ≤ b := Rat.intCast_le_intCast
  have c2 : (a : Rat) = (b : Rat) ↔ a = b := Rat.intCast_inj
  unfold relZ Holds
  rw [c1, c1, c2]
  rcases (show rel = 1 ∨ rel = 2 ∨ rel = 3 by omega) with rfl | rfl | rfl <;> simp

section
variable {ip : IP}
theorem IP.objZ (hd : ip.den = 0) (j : Nat) : ip.pl.toP.obj j = ((ip.obj.getD j 0 : Int) : Rat) := by
  show (ip.obj.map (qn · ip.den)).getD j 0 = _
  rw [qn_get, hd, qn_int]
theorem IP.rowZ (hd : ip.den = 0) {i : Nat} {r : IRow} (h : ip.rows[i]? = some r) : (∀ j, ip.pl.toP.coef i j = ((r.coef.getD j 0 : Int) : Rat)) ∧ ip.pl.toP.right i = (r.right : Rat) ∧ ip.pl.toP.rel i = r.rel ∧ ip.pl.toP.len i = r.coef.length := by
  have h2 := IP.row h
  refine ⟨fun j => ?_, ?_, ?_, ?_⟩
  · show (ip.pl.rows.getD i RL.zero).coef.getD j 0 = _
    rw [h2]
    show (r.coef.map (qn · ip.den)).getD j 0 = _
    rw [qn_get, hd, qn_int]
  · show (ip.pl.rows.getD i RL.zero).right = _
    rw [h2, hd]; exact qn_int _
  · show (ip.pl.rows.getD i RL.zero).rel = _
    rw [h2]; rfl
  · show (ip.pl.rows.getD i RL.zero).coef.length = _
    rw [h2]; show (r.coef.map _).length = _; simp
theorem cast_dot (c : List Int) (n : Nat) (x : Nat → Int) (f : Nat → Rat) (hf : ∀ j, f j = ((c.getD j 0 : Int) : Rat)) : dot n f (fun j => (x j : Rat)) = ((dotZ c n x : Int) : Rat) := by
  unfold dot dotZ
  rw [sumZ_cast]
  exact sm_congr fun j _ => by rw [hf, Rat.intCast_mul]
theorem IP.objI (hd : ip.den = 0) (x : Nat → Int) : ip.pl.toP.objI x = ((dotZ ip.obj ip.obj.length x : Int) : Rat) := by
  unfold Prob.objI
  rw [IP.pn]
  exact cast_dot _ _ _ _ (IP.objZ hd)
theorem IP.feasI (hd : ip.den = 0) (hv : validB ip.pl.toP = true) {x : Nat → Int} : ip.pl.toP.FeasI x ↔ (∀ j, j < ip.obj.length → 0 ≤ x j) ∧ holdsZ ip.rows ip.obj.length x = true := by
  obtain ⟨v1, v2, v3, v4⟩ := validB_iff.1 hv
  have key : ∀ i r, ip.rows[i]? = some r → (Holds (ip.pl.toP.rel i) (dot ip.pl.toP.n (ip.pl.toP.coef i) (fun j => (x j : Rat))) (ip.pl.toP.right i) ↔ r.holdZ ip.obj.length x = true) := fun i r hr => by
    have him : i < ip.pl.toP.m := by rw [IP.pm]; exact (List.getElem?_eq_some_iff.1 hr).1
    obtain ⟨a1, a2, a3, a4⟩ := IP.rowZ hd hr
    obtain ⟨-, b1, b2⟩ := v4 i him
    rw [a3] at b1 b2
    unfold IRow.holdZ
    rw [relZ_iff b1 b2, a2, a3, IP.pn, cast_dot _ _ _ _ a1]
  unfold Prob.FeasI Prob.Feas holdsZ
  constructor
  · rintro ⟨h1, h2⟩
    refine ⟨fun j hj => ?_, List.all_eq_true.2 fun r hr => ?_⟩
    · have := h1 j (by rw [IP.pn]; exact hj)
      exact Rat.intCast_le_intCast.1 this
    · obtain ⟨i, hi⟩ := List.getElem?_of_mem hr
      exact (key i r hi).1 (h2 i (by rw [IP.pm]; exact (List.getElem?_eq_some_iff.1 hi).1))
  · rintro ⟨h1, h2⟩
    refine ⟨fun j hj => ?_, fun i hi => ?_⟩
    · rw [IP.pn] at hj
      have := h1 j hj
      show (0 : Rat) ≤ (x j : Rat)
      exact Rat.intCast_le_intCast.2 this
    · rw [IP.pm] at hi
      exact (key i _ (List.getElem?_eq_getElem hi)).2 (List.all_eq_true.1 h2 _ (List.getElem_mem hi))
end

/-! boxed -/
def inZ (z : Int) : Bool := decide (-60 ≤ z) && decide (z ≤ 60)
theorem inZ_iff {z : Int} : inZ z = true ↔ -60 ≤ z ∧ z ≤ 60 := by unfold inZ; rw [Bool.and_eq_true, decide_eq_true_eq, decide_eq_true_eq]
def rowZB (n : Nat) (r : IRow) : Bool := decide (r.coef.length = n) && inZ r.right && decide (1 ≤ r.rel) && decide (r.rel ≤ 3) && r.coef.all inZ
def boxZ (ip : IP) : Bool := decide (1 ≤ ip.obj.length) && decide (ip.obj.length ≤ 3) && decide (ip.rows.length ≤ 5) && ip.obj.all inZ && ip.rows.all (rowZB ip.obj.length)
def unitZ (n j : Nat) : List Int := (List.range n).map (fun i => if i = j then 1 else 0)
def boxRowZ (n j : Nat) : IRow := ⟨unitZ n j, 1, 3⟩
def IP.boxed (ip : IP) : IP := ⟨ip.obj, ip.rows ++ (List.range ip.obj.length).map (boxRowZ ip.obj.length), 0⟩
theorem unitZ_len (n j : Nat) : (unitZ n j).length = n := by unfold unitZ; simp
theorem unitZ_get {n j i : Nat} (h : i < n) : (unitZ n j).getD i 0 = if i = j then 1 else 0 := by
  unfold unitZ
  rw [List.getD_eq_getElem?_getD, List.getElem?_map, List.getElem?_range h]
  rfl
theorem unitZ_in (n j : Nat) : ∀ z ∈ unitZ n j, 0 ≤ z ∧ z ≤ 1 := by
  intro z hz
  obtain ⟨i, -, rfl⟩ := List.mem_map.1 hz
  split <;> omega
theorem boxRowZ_dot {n j : Nat} (h : j < n) (x : Nat → Int) : dotZ (unitZ n j) n x = x j := by
  have : ∀ k, k ≤ n → sumZ k (fun i => (unitZ n j).getD i 0 * x i) = if j < k then x j else 0 := by
    intro k hk
    induction k with
    | zero => rfl
    | succ k ih =>
      show sumZ k _ + (unitZ n j).getD k 0 * x k = _
      rw [ih (by omega), unitZ_get (by omega)]
      rcases Nat.lt_trichotomy j k with h1 | h1 | h1
      · rw [if_pos h1, if_neg (by omega), if_pos (by omega)]; omega
      · subst h1; rw [if_neg (by omega), if_pos rfl, if_pos (by omega)]; omega
      · rw [if_neg (by omega), if_neg (by omega), if_neg (by omega)]; omega
  unfold dotZ
  rw [this n (Nat.le_refl _), if_pos h]
theorem boxed_holds {ip : IP} {x : Nat → Int} : holdsZ ip.boxed.rows ip.obj.length x = true ↔ holdsZ ip.rows ip.obj.length x = true ∧ ∀ j, j < ip.obj.length → x j ≤ 3 := by
  unfold holdsZ IP.boxed
  rw [List.all_append, Bool.and_eq_true, List.all_map, List.all_eq_true (l := List.range _)]
  refine and_congr Iff.rfl ⟨fun h j hj => ?_, fun h j hj => ?_⟩
  · have h1 := h j (List.mem_range.2 hj)
    simp only [Function.comp_def] at h1
    unfold IRow.holdZ boxRowZ relZ at h1
    simp only [boxRowZ_dot hj] at h1
    simpa using h1
  · have hj := List.mem_range.1 hj
    simp only [Function.comp_def]
    unfold IRow.holdZ boxRowZ relZ
    simp only [boxRowZ_dot hj]
    simpa using h j hj
structure BoxOK (ip : IP) : Prop where
  n1 : 1 ≤ ip.obj.length
  n3 : ip.obj.length ≤ 3
  m5 : ip.rows.length ≤ 5
  obj : ∀ z ∈ ip.obj, -60 ≤ z ∧ z ≤ 60
  rows : ∀ r ∈ ip.rows, r.coef.length = ip.obj.length ∧ (-60 ≤ r.right ∧ r.right ≤ 60) ∧ 1 ≤ r.rel ∧ r.rel ≤ 3 ∧ ∀ z ∈ r.coef, -60 ≤ z ∧ z ≤ 60
theorem boxZ_iff {ip : IP} : boxZ ip = true ↔ BoxOK ip := by
  unfold boxZ
  rw [Bool.and_eq_true, Bool.and_eq_true, Bool.and_eq_true, Bool.and_eq_true, decide_eq_true_eq, decide_eq_true_eq, decide_eq_true_eq, List.all_eq_true, List.all_eq_true]
  have hr : ∀ r : IRow, rowZB ip.obj.length r = true ↔ r.coef.length = ip.obj.length ∧ (-60 ≤ r.right ∧ r.right ≤ 60) ∧ 1 ≤ r.rel ∧ r.rel ≤ 3 ∧ ∀ z ∈ r.coef, -60 ≤ z ∧ z ≤ 60 := fun r => by
    unfold rowZB
    rw [Bool.and_eq_true, Bool.and_eq_true, Bool.and_eq_true, Bool.and_eq_true, decide_eq_true_eq, decide_eq_true_eq, decide_eq_true_eq, List.all_eq_true, inZ_iff]
    simp only [inZ_iff, and_assoc]
  simp only [inZ_iff, hr]
  exact ⟨fun ⟨⟨⟨⟨a, b⟩, c⟩, d⟩, e⟩ => ⟨a, b, c, d, e⟩, fun h => ⟨⟨⟨⟨h.n1, h.n3⟩, h.m5⟩, h.obj⟩, h.rows⟩⟩
/-- problems of the laws over boxed problems: a box, further rows -/
structure BoxP (ip : IP) (m : Nat) : Prop where
  den : ip.den = 0
  n1 : 1 ≤ ip.obj.length
  n3 : ip.obj.length ≤ 3
  ms : ip.rows.length ≤ m
  m1 : m ≤ 100
  obj : ∀ z ∈ ip.obj, -60 ≤ z ∧ z ≤ 60
  rows : ∀ r ∈ ip.rows, r.coef.length = ip.obj.length ∧ in32 r.right ∧ 1 ≤ r.rel ∧ r.rel ≤ 3 ∧ ∀ z ∈ r.coef, -200 ≤ z ∧ z ≤ 200
  box : ∀ x : Nat → Rat, ip.pl.toP.Feas x → ∀ j, j < ip.obj.length → x j ≤ 3
section
variable {ip : IP} {m : Nat}
theorem BoxP.ok (h : BoxP ip m) : ip.ok := by
  refine ⟨fun z hz => ?_, by have := h.n3; omega, by have := h.ms; have := h.m1; omega, by rw [h.den]; omega, fun r hr => ?_⟩
  · have := h.obj z hz; exact ⟨by omega, by omega⟩
  · obtain ⟨h1, h2, h3, h4, h5⟩ := h.rows r hr
    refine ⟨fun z hz => ?_, h2, by omega, by have := h.n3; omega⟩
    have := h5 z hz; exact ⟨by omega, by omega⟩
theorem BoxP.valid (h : BoxP ip m) : validB ip.pl.toP = true := by
  have := h.n1
  have := h.n3
  have := h.ms
  have := h.m1
  refine validB_iff.2 ⟨by rw [IP.pn]; omega, by rw [IP.pn]; omega, by rw [IP.pm]; omega, fun i hi => ?_⟩
  rw [IP.pm] at hi
  obtain ⟨-, -, a3, a4⟩ := IP.rowZ h.den (List.getElem?_eq_getElem hi)
  obtain ⟨b1, -, b2, b3, -⟩ := h.rows _ (List.getElem_mem hi)
  rw [a3, a4, IP.pn]
  exact ⟨b1, b2, b3⟩
theorem BoxP.Box (h : BoxP ip m) : ip.pl.toP.Box (fun _ => 0) (fun _ => 3) := fun x hx j hj => ⟨hx.1 j hj, h.box x hx j (by rwa [IP.pn] at hj)⟩
theorem getD_in {l : List Int} {a b : Int} (h : ∀ z ∈ l, a ≤ z ∧ z ≤ b) (h0 : a ≤ 0 ∧ 0 ≤ b) (j : Nat) : a ≤ l.getD j 0 ∧ l.getD j 0 ≤ b := by
  rw [List.getD_eq_getElem?_getD]
  cases e : l[j]? with
  | none => exact h0
  | some z => exact h z (List.mem_of_getElem? e)
theorem mul_box {c : Int} {q : Rat} {C : Int} (hc : -C ≤ c ∧ c ≤ C) (h0 : 0 ≤ q) (h3 : q ≤ 3) : -((C * 3 : Int) : Rat) ≤ (c : Rat) * q ∧ (c : Rat) * q ≤ ((C * 3 : Int) : Rat) := by
  have c1 : -(C : Rat) ≤ (c : Rat) := by rw [← Rat.intCast_neg]; exact Rat.intCast_le_intCast.2 hc.1
  have c2 : (c : Rat) ≤ (C : Rat) := Rat.intCast_le_intCast.2 hc.2
  have hC0 : (0 : Rat) ≤ (C : Rat) := by
    have : (0 : Int) ≤ C := by omega
    exact Rat.intCast_le_intCast.2 this
  have e : ((C * 3 : Int) : Rat) = (C : Rat) * 3 := by rw [Rat.intCast_mul]; rfl
  rw [e]
  have m1 : (c : Rat) * q ≤ (C : Rat) * q := Rat.mul_le_mul_of_nonneg_right c2 h0
  have m2 : (C : Rat) * q ≤ (C : Rat) * 3 := Rat.mul_le_mul_of_nonneg_left h3 hC0
  have m3 : -(C : Rat) * q ≤ (c : Rat) * q := Rat.mul_le_mul_of_nonneg_right c1 h0
  have m4 : -(C : Rat) * q = -((C : Rat) * q) := Rat.neg_mul _ _
  constructor
  · grind
  · exact Rat.le_trans m1 m2
theorem sm_box {n : Nat} {f : Nat → Rat} {C : Int} (h : ∀ j, j < n → -(C : Rat) ≤ f j ∧ f j ≤ (C : Rat)) : -(((n : Int) * C : Int) : Rat) ≤ sm n f ∧ sm n f ≤ (((n : Int) * C : Int) : Rat) := by
  induction n with
  | zero => show -(((0 : Nat) : Int) * C : Int) ≤ (0 : Rat) ∧ (0 : Rat) ≤ (((0 : Nat) : Int) * C : Int); simp
  | succ n ih =>
    have h1 := ih (fun j hj => h j (by omega))
    have h2 := h n (by omega)
    have e : ((((n + 1 : Nat) : Int) * C : Int) : Rat) = (((n : Int) * C : Int) : Rat) + (C : Rat) := by
      rw [← Rat.intCast_add]
      congr 1
      rw [Int.natCast_add, Int.add_mul]; simp
    show -((((n + 1 : Nat) : Int) * C : Int) : Rat) ≤ sm n f + f n ∧ sm n f + f n ≤ ((((n + 1 : Nat) : Int) * C : Int) : Rat)
    rw [e]
    constructor <;> grind
theorem BoxP.small (h : BoxP ip m) : ip.pl.toP.Small 1000 := fun x hx => by
  have hn := h.n3
  have hb := sm_box (n := ip.pl.toP.n) (C := 60 * 3) (f := fun j => ip.pl.toP.obj j * x j) (fun j hj => by
    have := mul_box (C := 60) (getD_in h.obj (by omega) j) (hx.1 j hj) (h.box x hx j (by rwa [IP.pn] at hj))
    rw [IP.objZ h.den]
    exact this)
  have hl : (ip.pl.toP.n : Int) * (60 * 3) ≤ 1000 := by rw [IP.pn]; omega
  have h1 : (((ip.pl.toP.n : Int) * (60 * 3) : Int) : Rat) ≤ ((1000 : Int) : Rat) := Rat.intCast_le_intCast.2 hl
  unfold dot
  constructor <;> grind
theorem vol_box {n : Nat} (h : n ≤ 3) : 2 * vol (fun _ => 0) (fun _ => 3) n - 1 ≤ 127 := by
  rcases (show n = 0 ∨ n = 1 ∨ n = 2 ∨ n = 3 by omega) with rfl | rfl | rfl | rfl <;> decide
end
/-- a search with 400 nodes in a box -/
theorem box_solve {P : Prob} (hv : validB P = true) (hi : intB P = true) (hn : P.n ≤ 3) (hb : P.Box (fun _ => 0) (fun _ => 3)) (hs : P.Small 1000) :
    (∃ v x t, solveR 400 P = .done v x t ∧ Found 400 P v x t) ∨ (solveR 400 P = .fail 17 ∧ ∀ u, ¬ P.FeasI u) := by
  have hr := (validB_iff.1 hv).vrel
  have hvol := vol_box hn
  obtain ⟨t, s, h1, h2⟩ := nodeF_box (L := 400) (k := 400 + 1) (p := P) (s := ⟨0, none⟩) (lo := fun _ => 0) (hi := fun _ => 3) (M := 1000) hr hb (fun j hj => ⟨by omega, by omega, by omega⟩) hs (by omega) (by omega) (by show 0 + _ ≤ 400; omega) (by show 400 < 0 + (400 + 1); omega)
  have h1 : solveF 400 P = .ok (t, s) := h1
  obtain ⟨-, g2, g3⟩ := solveF_best hr (intObj_of hi) h1
  cases hbst : s.best with
  | none =>
    refine .inr ⟨?_, g3 hbst⟩
    rw [solveR_eq hv hi, h1, resR_none hbst]
  | some q =>
    obtain ⟨v, x⟩ := q
    have h3 : solveR 400 P = .done v x t := by rw [solveR_eq hv hi, h1, resR_some hbst]
    exact .inl ⟨v, x, t, h3, solveR_done (by omega) h3⟩
theorem boxed_P {ip : IP} (h : BoxOK ip) : BoxP ip.boxed 8 := by
  have h1 := h.n1
  have h3 := h.n3
  have h5 := h.m5
  have hrows : ∀ r ∈ ip.boxed.rows, r.coef.length = ip.boxed.obj.length ∧ in32 r.right ∧ 1 ≤ r.rel ∧ r.rel ≤ 3 ∧ ∀ z ∈ r.coef, -200 ≤ z ∧ z ≤ 200 := fun r hr => by
    rcases List.mem_append.1 hr with hr | hr
    · obtain ⟨a1, a2, a3, a4, a5⟩ := h.rows r hr
      exact ⟨a1, ⟨by omega, by omega⟩, a3, a4, fun z hz => by have := a5 z hz; omega⟩
    · obtain ⟨j, -, rfl⟩ := List.mem_map.1 hr
      refine ⟨unitZ_len _ _, ⟨?_, ?_⟩, ?_, ?_, fun z hz => by have := unitZ_in _ _ z hz; omega⟩
      · show (-2147483648 : Int) ≤ 3; decide
      · show (3 : Int) ≤ 2147483647; decide
      · show 1 ≤ 1; decide
      · show 1 ≤ 3; decide
  have hm : ip.boxed.rows.length ≤ 8 := by
    show (ip.rows ++ (List.range ip.obj.length).map (boxRowZ ip.obj.length)).length ≤ 8
    rw [List.length_append, List.length_map, List.length_range]; omega
  refine ⟨rfl, h1, h3, hm, by omega, h.obj, hrows, fun x hx j hj => ?_⟩
  have hj : j < ip.obj.length := hj
  have hget : ip.boxed.rows[ip.rows.length + j]? = some (boxRowZ ip.obj.length j) := by
    show (ip.rows ++ (List.range ip.obj.length).map (boxRowZ ip.obj.length))[ip.rows.length + j]? = _
    rw [List.getElem?_append_right (by omega), show ip.rows.length + j - ip.rows.length = j by omega, List.getElem?_map, List.getElem?_range hj]
    rfl
  obtain ⟨a1, a2, a3, a4⟩ := IP.rowZ (ip := ip.boxed) rfl hget
  have hh := hx.2 (ip.rows.length + j) (by rw [IP.pm]; exact (List.getElem?_eq_some_iff.1 hget).1)
  have hd : dot ip.boxed.pl.toP.n (ip.boxed.pl.toP.coef (ip.rows.length + j)) x = x j := by
    rw [IP.pn]
    show sm ip.obj.length (fun i => ip.boxed.pl.toP.coef (ip.rows.length + j) i * x i) = x j
    rw [sm_only (k := j) hj (fun i hi hne => by
      show ip.boxed.pl.toP.coef (ip.rows.length + j) i * x i = 0
      rw [a1]
      show (((unitZ ip.obj.length j).getD i 0 : Int) : Rat) * x i = 0
      rw [unitZ_get hi, if_neg hne]
      exact Rat.zero_mul _), a1]
    show (((unitZ ip.obj.length j).getD j 0 : Int) : Rat) * x j = x j
    rw [unitZ_get hj, if_pos rfl]
    exact Rat.one_mul _
  rw [hd, a3, a2] at hh
  have := hh.1 rfl
  exact this

/-! all points -/
/-- the point with a number -/
def ptZ (c j : Nat) : Int := if j = 0 then ((c % 4 : Nat) : Int) else if j = 1 then ((c / 4 % 4 : Nat) : Int) else ((c / 16 % 4 : Nat) : Int)
theorem ptZ_in (c j : Nat) : 0 ≤ ptZ c j ∧ ptZ c j ≤ 3 := by unfold ptZ; split <;> (try split) <;> omega
theorem ptZ_step {c j i : Nat} (hj : j < 3) (hi : i < 3) (h3 : ∀ k, k < j → ptZ c k = 3) (hn : ptZ c j ≠ 3) : ptZ (c + 1) i = if i < j then 0 else if i = j then ptZ c j + 1 else ptZ c i := by
  rcases (show j = 0 ∨ j = 1 ∨ j = 2 by omega) with rfl | rfl | rfl
  · have a0 : ptZ c 0 = ((c % 4 : Nat) : Int) := rfl
    rw [a0] at hn
    rcases (show i = 0 ∨ i = 1 ∨ i = 2 by omega) with rfl | rfl | rfl <;> simp [ptZ] <;> omega
  · have a0 := h3 0 (by omega)
    have b0 : ptZ c 0 = ((c % 4 : Nat) : Int) := rfl
    have b1 : ptZ c 1 = ((c / 4 % 4 : Nat) : Int) := rfl
    rw [b0] at a0
    rw [b1] at hn
    rcases (show i = 0 ∨ i = 1 ∨ i = 2 by omega) with rfl | rfl | rfl <;> simp [ptZ] <;> omega
  · have a0 := h3 0 (by omega)
    have a1 := h3 1 (by omega)
    have b0 : ptZ c 0 = ((c % 4 : Nat) : Int) := rfl
    have b1 : ptZ c 1 = ((c / 4 % 4 : Nat) : Int) := rfl
    have b2 : ptZ c 2 = ((c / 16 % 4 : Nat) : Int) := rfl
    rw [b0] at a0
    rw [b1] at a1
    rw [b2] at hn
    rcases (show i = 0 ∨ i = 1 ∨ i = 2 by omega) with rfl | rfl | rfl <;> simp [ptZ] <;> omega
theorem ptZ_last {c n : Nat} (h1 : 1 ≤ n) (hn : n ≤ 3) (hc : c < 4 ^ n) (h3 : ∀ k, k < n → ptZ c k = 3) : c + 1 = 4 ^ n := by
  have b0 : ptZ c 0 = ((c % 4 : Nat) : Int) := rfl
  have b1 : ptZ c 1 = ((c / 4 % 4 : Nat) : Int) := rfl
  have b2 : ptZ c 2 = ((c / 16 % 4 : Nat) : Int) := rfl
  have a0 := h3 0 (by omega)
  rcases (show n = 1 ∨ n = 2 ∨ n = 3 by omega) with rfl | rfl | rfl
  · have hc : c < 4 := hc
    show c + 1 = 4; omega
  · have hc : c < 16 := hc
    have a1 := h3 1 (by omega)
    show c + 1 = 16; omega
  · have hc : c < 64 := hc
    have a1 := h3 1 (by omega)
    have a2 := h3 2 (by omega)
    show c + 1 = 64; omega
theorem ptZ_more {c n j : Nat} (hn : n ≤ 3) (hj : j < n) (hc : c < 4 ^ n) (hne : ptZ c j ≠ 3) (h3 : ∀ k, k < j → ptZ c k = 3) : c + 1 < 4 ^ n := by
  have b0 : ptZ c 0 = ((c % 4 : Nat) : Int) := rfl
  have b1 : ptZ c 1 = ((c / 4 % 4 : Nat) : Int) := rfl
  have b2 : ptZ c 2 = ((c / 16 % 4 : Nat) : Int) := rfl
  rcases (show j = 0 ∨ j = 1 ∨ j = 2 by omega) with rfl | rfl | rfl <;> rcases (show n = 1 ∨ n = 2 ∨ n = 3 by omega) with rfl | rfl | rfl
  all_goals first
    | omega
    | (rw [Nat.pow_one] at hc ⊢; omega)
    | (have a0 := h3 0 (by omega); omega)
    | (have a0 := h3 0 (by omega); have a1 := h3 1 (by omega); omega)
theorem ptZ_all {n : Nat} (h1 : 1 ≤ n) (hn : n ≤ 3) {x : Nat → Int} (hx : ∀ j, j < n → 0 ≤ x j ∧ x j ≤ 3) : ∃ c, c < 4 ^ n ∧ ∀ j, j < n → ptZ c j = x j := by
  have x0 := hx 0 (by omega)
  rcases (show n = 1 ∨ n = 2 ∨ n = 3 by omega) with rfl | rfl | rfl
  · refine ⟨(x 0).toNat, by show _ < 4; omega, fun j hj => ?_⟩
    obtain rfl : j = 0 := by omega
    show (((x 0).toNat % 4 : Nat) : Int) = x 0; omega
  · have x1 := hx 1 (by omega)
    refine ⟨(x 0).toNat + 4 * (x 1).toNat, by show _ < 16; omega, fun j hj => ?_⟩
    rcases (show j = 0 ∨ j = 1 by omega) with rfl | rfl
    · show ((((x 0).toNat + 4 * (x 1).toNat) % 4 : Nat) : Int) = x 0; omega
    · show ((((x 0).toNat + 4 * (x 1).toNat) / 4 % 4 : Nat) : Int) = x 1; omega
  · have x1 := hx 1 (by omega)
    have x2 := hx 2 (by omega)
    refine ⟨(x 0).toNat + 4 * (x 1).toNat + 16 * (x 2).toNat, by show _ < 64; omega, fun j hj => ?_⟩
    rcases (show j = 0 ∨ j = 1 ∨ j = 2 by omega) with rfl | rfl | rfl
    · show ((((x 0).toNat + 4 * (x 1).toNat + 16 * (x 2).toNat) % 4 : Nat) : Int) = x 0; omega
    · show ((((x 0).toNat + 4 * (x 1).toNat + 16 * (x 2).toNat) / 4 % 4 : Nat) : Int) = x 1; omega
    · show ((((x 0).toNat + 4 * (x 1).toNat + 16 * (x 2).toNat) / 16 % 4 : Nat) : Int) = x 2; omega
/-- the greatest objective of the first c points -/
def grtZ (R : List IRow) (o : List Int) (n : Nat) : Nat → Option Int
  | 0 => none
  | c + 1 => if holdsZ R n (ptZ c) = true then (match grtZ R o n c with
    | none => some (dotZ o n (ptZ c))
    | some b => if b < dotZ o n (ptZ c) then some (dotZ o n (ptZ c)) else some b) else grtZ R o n c
theorem grtZ_none {R : List IRow} {o : List Int} {n c : Nat} (h : grtZ R o n c = none) : ∀ e, e < c → holdsZ R n (ptZ e) = false := by
  induction c with
  | zero => intro e he; omega
  | succ c ih =>
    unfold grtZ at h
    split at h
    · next hh =>
      cases hg : grtZ R o n c with
      | none => rw [hg] at h; cases h
      | some b =>
        rw [hg] at h
        simp only at h
        split at h <;> cases h
    · next hh =>
      intro e he
      rcases Nat.lt_or_ge e c with hlt | hge
      · exact ih h e hlt
      · obtain rfl : e = c := by omega
        simpa using hh
theorem grtZ_some {R : List IRow} {o : List Int} {n c : Nat} {b : Int} (h : grtZ R o n c = some b) : (∃ e, e < c ∧ holdsZ R n (ptZ e) = true ∧ dotZ o n (ptZ e) = b) ∧ ∀ e, e < c → holdsZ R n (ptZ e) = true → dotZ o n (ptZ e) ≤ b := by
  induction c generalizing b with
  | zero => cases h
  | succ c ih =>
    have last : ∀ {e : Nat} {p : Prop}, e < c + 1 → (e < c → p) → (e = c → p) → p := fun {e p} he h1 h2 => by
      rcases Nat.lt_or_ge e c with hlt | hge
      · exact h1 hlt
      · exact h2 (by omega)
    unfold grtZ at h
    split at h
    · next hh =>
      cases hg : grtZ R o n c with
      | none =>
        rw [hg] at h
        injection h with h
        have h0 := grtZ_none hg
        refine ⟨⟨c, by omega, hh, h⟩, fun e he hh2 => last he (fun hlt => ?_) (fun heq => ?_)⟩
        · rw [h0 e hlt] at hh2; cases hh2
        · subst heq; omega
      | some b' =>
        rw [hg] at h
        simp only at h
        obtain ⟨⟨e0, he0, hf0, hd0⟩, hall⟩ := ih hg
        split at h
        · next hlt2 =>
          injection h with h
          refine ⟨⟨c, by omega, hh, h⟩, fun e he hh2 => last he (fun hlt => ?_) (fun heq => ?_)⟩
          · have := hall e hlt hh2; omega
          · subst heq; omega
        · next hge2 =>
          injection h with h
          refine ⟨⟨e0, by omega, hf0, by omega⟩, fun e he hh2 => last he (fun hlt => ?_) (fun heq => ?_)⟩
          · have := hall e hlt hh2; omega
          · subst heq; omega
    · next hh =>
      obtain ⟨⟨e0, he0, hf0, hd0⟩, hall⟩ := ih h
      refine ⟨⟨e0, by omega, hf0, hd0⟩, fun e he hh2 => last he (fun hlt => hall e hlt hh2) (fun heq => ?_)⟩
      subst heq
      exact absurd hh2 hh
/-- trying all points answers as the search does -/
theorem box_grt {ip : IP} (h : BoxP ip.boxed 8) :
    (∃ v x t, solveR 400 ip.boxed.pl.toP = .done v x t ∧ grtZ ip.boxed.rows ip.obj ip.obj.length (4 ^ ip.obj.length) = some v ∧ (∀ j, j < ip.obj.length → 0 ≤ x j ∧ x j ≤ 3) ∧ holdsZ ip.boxed.rows ip.obj.length x = true ∧ dotZ ip.obj ip.obj.length x = v) ∨
    (solveR 400 ip.boxed.pl.toP = .fail 17 ∧ grtZ ip.boxed.rows ip.obj ip.obj.length (4 ^ ip.obj.length) = none) := by
  have hd : ip.boxed.den = 0 := rfl
  have hv := h.valid
  have h1 : 1 ≤ ip.obj.length := h.n1
  have h3 : ip.obj.length ≤ 3 := h.n3
  have hpt : ∀ e, holdsZ ip.boxed.rows ip.obj.length (ptZ e) = true → ip.boxed.pl.toP.FeasI (ptZ e) := fun e he => (IP.feasI hd hv).2 ⟨fun j _ => (ptZ_in e j).1, he⟩
  rcases box_solve hv (IP.int hd) (by rw [IP.pn]; exact h.n3) h.Box h.small with ⟨v, x, t, h4, hF⟩ | ⟨h4, h5⟩
  · refine .inl ⟨v, x, t, h4, ?_⟩
    obtain ⟨f1, f2⟩ := (IP.feasI hd hv).1 hF.feas
    have f2 : holdsZ ip.boxed.rows ip.obj.length x = true := f2
    have f3 := (boxed_holds.1 f2).2
    have hxb : ∀ j, j < ip.obj.length → 0 ≤ x j ∧ x j ≤ 3 := fun j hj => ⟨f1 j hj, f3 j hj⟩
    have hob : ((dotZ ip.obj ip.obj.length x : Int) : Rat) = (v : Rat) := by rw [← hF.obj]; exact (IP.objI hd x).symm
    have hob := Rat.intCast_inj.1 hob
    refine ⟨?_, hxb, f2, hob⟩
    obtain ⟨c, hc, hcx⟩ := ptZ_all h1 h3 hxb
    have hch : holdsZ ip.boxed.rows ip.obj.length (ptZ c) = true := by rw [holdsZ_congr hcx]; exact f2
    have hcd : dotZ ip.obj ip.obj.length (ptZ c) = v := by rw [dotZ_congr hcx]; exact hob
    cases hg : grtZ ip.boxed.rows ip.obj ip.obj.length (4 ^ ip.obj.length) with
    | none => rw [grtZ_none hg c hc] at hch; cases hch
    | some b =>
      obtain ⟨⟨e, he, g1, g2⟩, g3⟩ := grtZ_some hg
      have h6 := g3 c hc hch
      have h7 := hF.best (ptZ e) (hpt e g1)
      have h8 : ip.boxed.pl.toP.objI (ptZ e) = ((dotZ ip.obj ip.obj.length (ptZ e) : Int) : Rat) := IP.objI hd _
      rw [h8] at h7
      have h7 := Rat.intCast_le_intCast.1 h7
      congr 1
      omega
  · refine .inr ⟨h4, ?_⟩
    cases hg : grtZ ip.boxed.rows ip.obj ip.obj.length (4 ^ ip.obj.length) with
    | none => rfl
    | some b =>
      obtain ⟨⟨e, he, g1, g2⟩, g3⟩ := grtZ_some hg
      exact absurd (hpt e g1) (h5 _)
end Go.Proofs.Ythafabkjidifeaa.Lp

namespace Go.Proofs.Ythafabkjidifeaa.Lp
open Go.RowKit Go.Proofs.Ythafabkjidifeaa.Big Go.Proofs.Ythafabkjidifeaa.Rt

theorem mulZ {c x C X : Int} (h1 : -C ≤ c) (h2 : c ≤ C) (h3 : -X ≤ x) (h4 : x ≤ X) : -(C * X) ≤ c * x ∧ c * x ≤ C * X := by
  have hc : c.natAbs ≤ C.natAbs := by omega
  have hx : x.natAbs ≤ X.natAbs := by omega
  have h5 := Nat.mul_le_mul hc hx
  rw [← Int.natAbs_mul, ← Int.natAbs_mul] at h5
  have h6 : 0 ≤ C * X := Int.mul_nonneg (by omega) (by omega)
  generalize c * x = p at *
  generalize C * X = q at *
  omega
theorem all_take_noZ {α : Type} {f : α → Bool} {l : List α} {k : Nat} {x : α} (h : l[k]? = some x) (hf : f x = false) : l.all f = false := by
  cases e : l.all f with
  | false => rfl
  | true => rw [List.all_eq_true.1 e x (List.mem_of_getElem? h)] at hf; cases hf
theorem take_succZ {α : Type} (l : List α) {k : Nat} {a : α} (h : l[k]? = some a) : l.take (k + 1) = l.take k ++ [a] := by
  have hk := (List.getElem?_eq_some_iff.1 h).1
  rw [List.take_add_one, h]; rfl
set_option maxHeartbeats 1000000 in
set_option maxRecDepth 100000 in
theorem inz_b (x : Int) (w : World) (h1 : in32 x) : Calls Try.prog 33 #[.int .i32 x] w (fun e w' => e = .returned (.bool (inZ x)) ∧ w' = w) := by
  go_enter Try.func33, Try.ntmps33
  by_cases ha : -60 ≤ x
  · by_cases hb : x ≤ 60
    · go_wp2_with fail
      go_ret
      exact ⟨by unfold inZ; simp [ha, hb], rfl⟩
    · go_wp2_with fail
      go_ret
      exact ⟨by unfold inZ; simp [ha, hb], rfl⟩
  · go_wp2_with fail
    go_ret
    exact ⟨by unfold inZ; rw [decide_eq_false (by omega)]; rfl, rfl⟩
set_option maxHeartbeats 1000000 in
set_option maxRecDepth 100000 in
theorem dotZ_b (A : Option Addr) (nc cc g n : Nat) (cs : List Int) (x : Nat → Int) (w : World) (hc : Row w (.slice A nc cc) (wV cs)) (hx : Pts w g n x) (hn : n ≤ cs.length) (hn2 : n ≤ 1000) (hcb : ∀ z ∈ cs, in32 z) (hxb : ∀ j, j < n → -1000 ≤ x j ∧ x j ≤ 1000) :
    Calls Try.prog 17 #[.slice A nc cc, .slice (some ⟨g, 0, none⟩) n n] w (ValPost w (.int .i64 (dotZ cs n x))) := by
  obtain ⟨hl, hcc, hcc2, hrow⟩ := hc.inj
  rw [wV_len] at hl hcc hrow
  obtain ⟨f, hf⟩ : ∃ f : Nat → Int, f = fun j => cs.getD j 0 * x j := ⟨_, rfl⟩
  have HD : Hid (dotZ cs n x = sumZ n f) := Lib.hid (by rw [hf]; rfl)
  have HF : Hid (∀ k, k < n → -2147483648000 ≤ f k ∧ f k ≤ 2147483648000) := Lib.hid (fun k hk => by
    have h1 := getD_in (a := -2147483648) (b := 2147483648) (l := cs) (fun z hz => by have := hcb z hz; exact ⟨this.1, by have := this.2; omega⟩) (by omega) k
    have h2 := hxb k hk
    have := mulZ (C := 2147483648) (X := 1000) h1.1 h1.2 h2.1 h2.2
    rw [hf]
    exact this)
  have HB : Hid (∀ k, k ≤ n → -4611686018427387904 ≤ sumZ k f ∧ sumZ k f ≤ 4611686018427387904) := Lib.hid (fun k hk => by
    have h := sumZ_le (C := 2147483648000) (n := k) (f := f) (fun j hj => HF.out j (by omega))
    omega)
  have HFV : Hid (∀ k, f k = cs.getD k 0 * x k) := Lib.hid (fun k => by rw [hf])
  have HCB := Lib.hid hcb
  have HROW := Lib.hid hrow
  have HL := Lib.hid hl
  clear hf hcb hrow hxb hc
  go_enter Try.func17, Try.ntmps17
  go_wp2_with fail
  go_loopw [5, 9] (fun s i wr => ∃ k : Nat, k ≤ n ∧ i = .int .i64 k ∧ s = .int .i64 (sumZ k f) ∧ Ext w wr) (fun _ i _ => n - (intOf i).toNat)
  case atStart => exact ⟨0, by omega, rfl, rfl, Ext.refl w⟩
  case round =>
    obtain ⟨k, hk, rfl, rfl, hE⟩ := hrel
    by_cases hlt : k < n
    · obtain ⟨b, off, rfl, ca⟩ := HROW.out (by omega)
      obtain ⟨c, hck⟩ : ∃ c, cs[k]? = some c := ⟨_, List.getElem?_eq_getElem (by omega)⟩
      have a0 := hE.cell (ca k _ (wV_get hck))
      have b0 := (hx.ext hE).cell hlt
      have hc32 := HCB.out c (List.mem_of_getElem? hck)
      have hS := HB.out k (by omega)
      have hS2 := HB.out (k + 1) (by omega)
      have hFk := HF.out k hlt
      have hFv : f k = c * x k := by rw [HFV.out, List.getD_eq_getElem?_getD, hck]; rfl
      have HS : Hid (sumZ (k + 1) f = sumZ k f + f k) := Lib.hid rfl
      rw [HS.out] at hS2
      rw [hFv] at hS2 hFk HS
      obtain ⟨s, hs⟩ : ∃ s, s = sumZ k f := ⟨_, rfl⟩
      obtain ⟨y, hyy⟩ : ∃ s, s = x k := ⟨_, rfl⟩
      rw [← hyy] at b0 hFk hS2 HS
      rw [← hs] at hS hS2 HS ⊢
      have h32 := hc32.1
      have h33 := hc32.2
      have w0 : IntKind.i64.wrap c = c := IntWalk.i64_in _ (by omega)
      have w1 : IntKind.i64.wrap (c * y) = c * y := IntWalk.i64_in _ (by omega)
      have w2 : IntKind.i64.wrap (s + c * y) = s + c * y := IntWalk.i64_in _ (by omega)
      have i1 : (0 : Int) ≤ (k : Int) := by omega
      have i2 : (k : Int) < (n : Int) := by omega
      have i3 : (k : Int) < (nc : Int) := by have := HL.out; omega
      clear hs hyy hS hS2 hFk hFv ca hck hc32 h32 h33
      go_wp2_with fail
      go_quiet (fail)
      generalize hWW : World.drewN wr _ = W
      have hX : Ext w W := by rw [← hWW]; exact hE.drewN _
      clear hWW
      go_wp2_with fail
      go_roundw
      case rel => first | exact ⟨k + 1, by omega, by go_num, by rw [HS.out], hX⟩ | ((repeat (apply Exists.intro (α := Value))); exact ⟨⟨k + 1, by omega, by go_num, by rw [HS.out], hX⟩, rfl⟩)
      case measure => simp [intOf]; omega
    · obtain rfl : k = n := by omega
      go_wp2_with fail
      go_ret
      exact ⟨by rw [HD.out]; rfl, hE⟩
/-- a row of a law's problem at a place, as a box -/
theorem holdZ_cases (rel : Nat) (a b : Int) : (rel = 1 ∧ relZ rel a b = !decide (b < a)) ∨ (rel = 2 ∧ relZ rel a b = !(a != b)) ∨ (rel = 3 ∧ relZ rel a b = !decide (a < b)) ∨ (rel ≠ 1 ∧ rel ≠ 2 ∧ rel ≠ 3 ∧ relZ rel a b = true) := by
  unfold relZ
  by_cases h1 : rel = 1
  · exact .inl ⟨h1, by subst h1; simp⟩
  · by_cases h2 : rel = 2
    · exact .inr (.inl ⟨h2, by subst h2; simp⟩)
    · by_cases h3 : rel = 3
      · exact .inr (.inr (.inl ⟨h3, by subst h3; simp⟩))
      · exact .inr (.inr (.inr ⟨h1, h2, h3, by simp [h1, h2, h3]⟩))
set_option maxHeartbeats 2000000 in
set_option maxRecDepth 100000 in
theorem holdsZ_b (v : Value) (ip : IP) (g n : Nat) (x : Nat → Int) (w : World) (h : IPV w v ip) (hp : Pts w g n x) (hok : ip.ok) (hlen : ∀ r ∈ ip.rows, n ≤ r.coef.length) (hn : n ≤ 1000) (hxb : ∀ j, j < n → -1000 ≤ x j ∧ x j ≤ 1000) :
    Calls Try.prog 16 #[v, .slice (some ⟨g, 0, none⟩) n n] w (ValPost w (.bool (holdsZ ip.rows n x))) := by
  obtain ⟨Ao, co, Ar, cr, rfl, -, hmc, hmc2, hrows⟩ := h
  obtain ⟨no, hno⟩ : ∃ n, n = ip.obj.length := ⟨_, rfl⟩
  obtain ⟨m, hm⟩ : ∃ n, n = ip.rows.length := ⟨_, rfl⟩
  obtain ⟨d, hd⟩ : ∃ n, n = ip.den := ⟨_, rfl⟩
  rw [← hm] at hmc hrows
  rw [← hno, ← hm, ← hd]
  have hm2 : m ≤ 1048576 := by rw [hm]; exact hok.2.2.1
  have HM := Lib.hid hm
  have HROW := Lib.hid hrows
  have HOK := Lib.hid hok
  have HLEN := Lib.hid hlen
  have HXB := Lib.hid hxb
  clear hno hm hd hrows hok hlen hxb
  have B := Box.new w 25 #[.slice Ao no co, .slice Ar m cr, .int .u8 (d : Int)]
  have hE0 : Ext w (w.alloc (.cells #[.slice Ao no co, .slice Ar m cr, .int .u8 (d : Int)] 25)) := (Ext.refl w).alloc _
  go_enter Try.func16, Try.ntmps16
  go_upto_region 1 with fail
  generalize (w.alloc (.cells #[.slice Ao no co, .slice Ar m cr, .int .u8 (d : Int)] 25)) = V at *
  obtain ⟨pb, hpb⟩ : ∃ x, x = w.heap.size := ⟨_, rfl⟩
  rw [← hpb] at B ⊢
  clear hpb
  have c1 := B.c1
  go_wp2_with fail
  clear c1
  go_loopw [11] (fun i wr => ∃ k : Nat, k ≤ m ∧ i = .int .i64 k ∧ Hid ((ip.rows.take k).all (fun r => r.holdZ n x) = true) ∧ Ext V wr) (fun i _ => m - (intOf i).toNat)
  case atStart => exact ⟨0, by omega, rfl, Lib.hid rfl, Ext.refl V⟩
  case round =>
    obtain ⟨k, hk, rfl, HT, hx⟩ := hrel
    by_cases hlt : k < m
    · obtain ⟨b, off, rfl, hrow⟩ := HROW.out (by omega)
      obtain ⟨r, hr⟩ : ∃ r, ip.rows[k]? = some r := ⟨_, List.getElem?_eq_getElem (by have := HM.out; omega)⟩
      have hrm := List.mem_of_getElem? hr
      obtain ⟨Ac, cc, g0, g1, g2, hrw⟩ := (hrow k r hr).ext (hE0.trans hx)
      obtain ⟨q1, q2, q3, q4⟩ := HOK.out.2.2.2.2 r hrm
      have hnl := HLEN.out r hrm
      have HR := Lib.hid hr
      have HQ1 := Lib.hid q1
      obtain ⟨l, hl⟩ : ∃ l, l = r.coef.length := ⟨_, rfl⟩
      obtain ⟨rel, hrl⟩ : ∃ l, l = r.rel := ⟨_, rfl⟩
      obtain ⟨rt, hrt⟩ : ∃ l, l = r.right := ⟨_, rfl⟩
      rw [← hl] at g0 hrw
      rw [← hrl] at g1 q3
      rw [← hrt] at g2 q2
      have HL := Lib.hid hl
      have HRL := Lib.hid hrl
      have HRT := Lib.hid hrt
      have t1 := q2.1
      have t2 := q2.2
      clear hr hrm hrow q1 q2 q4 hl hrl hrt hnl
      go_upto_region 4 with fail
      have RB := Box.new wr 52 #[.slice Ac l cc, .int .u8 (rel : Int), .int .i32 rt]
      have hEx : Ext wr (wr.alloc (.cells #[.slice Ac l cc, .int .u8 (rel : Int), .int .i32 rt] 52)) := (Ext.refl wr).alloc _
      generalize (wr.alloc (.cells #[.slice Ac l cc, .int .u8 (rel : Int), .int .i32 rt] 52)) = X at *
      obtain ⟨rb, hrb⟩ : ∃ z, z = wr.heap.size := ⟨_, rfl⟩
      rw [← hrb] at RB ⊢
      clear hrb g0 g1 g2
      have hxX := hx.trans hEx
      have hrwX := hrw.ext hEx
      have hpX := (hp.ext hE0).ext hxX
      have r0 := RB.c0
      clear hEx hrw
      go_wp2_with fail
      refine (dotZ_b Ac l cc g n r.coef x _ hrwX hpX (HLEN.out r (List.mem_of_getElem? HR.out)) hn HQ1.out HXB.out).mono ?_
      rintro e w4 ⟨rfl, hx4⟩
      have RB4 := RB.ext hx4
      have hxd := hxX.trans hx4
      obtain ⟨D, hD⟩ : ∃ D, D = dotZ r.coef n x := ⟨_, rfl⟩
      rw [← hD]
      have HDR : Hid (r.holdZ n x = relZ rel D rt) := Lib.hid (by unfold IRow.holdZ; rw [HRL.out, HRT.out, hD])
      have r1 := RB4.c1
      have r2 := RB4.c2
      have w0 : IntKind.i64.wrap rt = rt := IntWalk.i64_in _ (by omega)
      clear r0 hD hxX hrwX hpX hx4 RB hx
      rcases holdZ_cases rel D rt with ⟨h1, h2⟩ | ⟨h1, h2⟩ | ⟨h1, h2⟩ | ⟨h1, h2, h3, h4⟩
      · by_cases hc : rt < D
        · have HH : Hid (r.holdZ n x = false) := Lib.hid (by rw [HDR.out, h2, decide_eq_true hc]; rfl)
          have e0 : decide (rt < D) = true := decide_eq_true hc
          clear h2
          obtain rfl : rel = 1 := h1
          go_wp2_with fail
          go_ret
          exact ⟨by unfold holdsZ; rw [all_take_noZ HR.out HH.out]; rfl, hE0.trans hxd⟩
        · have HH : Hid (r.holdZ n x = true) := Lib.hid (by rw [HDR.out, h2, decide_eq_false hc]; rfl)
          have e0 : decide (rt < D) = false := decide_eq_false hc
          clear h2
          obtain rfl : rel = 1 := h1
          go_wp2_with fail
          go_roundw
          case rel => first | exact ⟨k + 1, by omega, by go_num, Lib.hid (by rw [take_succZ _ HR.out, List.all_append, HT.out, List.all_cons, HH.out]; rfl), hxd⟩ | ((repeat (apply Exists.intro (α := Value))); exact ⟨⟨k + 1, by omega, by go_num, Lib.hid (by rw [take_succZ _ HR.out, List.all_append, HT.out, List.all_cons, HH.out]; rfl), hxd⟩, rfl⟩)
          case measure => simp [intOf]; omega
      · by_cases hc : D = rt
        · have HH : Hid (r.holdZ n x = true) := Lib.hid (by rw [HDR.out, h2, hc]; simp)
          have e0 : (D != rt) = false := by rw [hc]; simp
          clear h2 hc
          obtain rfl : rel = 2 := h1
          go_wp2_with fail
          go_roundw
          case rel => first | exact ⟨k + 1, by omega, by go_num, Lib.hid (by rw [take_succZ _ HR.out, List.all_append, HT.out, List.all_cons, HH.out]; rfl), hxd⟩ | ((repeat (apply Exists.intro (α := Value))); exact ⟨⟨k + 1, by omega, by go_num, Lib.hid (by rw [take_succZ _ HR.out, List.all_append, HT.out, List.all_cons, HH.out]; rfl), hxd⟩, rfl⟩)
          case measure => simp [intOf]; omega
        · have HH : Hid (r.holdZ n x = false) := Lib.hid (by rw [HDR.out, h2]; simp [hc])
          have e0 : (D != rt) = true := by simp [hc]
          clear h2
          obtain rfl : rel = 2 := h1
          go_wp2_with fail
          go_ret
          exact ⟨by unfold holdsZ; rw [all_take_noZ HR.out HH.out]; rfl, hE0.trans hxd⟩
      · by_cases hc : D < rt
        · have HH : Hid (r.holdZ n x = false) := Lib.hid (by rw [HDR.out, h2, decide_eq_true hc]; rfl)
          have e0 : decide (D < rt) = true := decide_eq_true hc
          clear h2
          obtain rfl : rel = 3 := h1
          go_wp2_with fail
          go_ret
          exact ⟨by unfold holdsZ; rw [all_take_noZ HR.out HH.out]; rfl, hE0.trans hxd⟩
        · have HH : Hid (r.holdZ n x = true) := Lib.hid (by rw [HDR.out, h2, decide_eq_false hc]; rfl)
          have e0 : decide (D < rt) = false := decide_eq_false hc
          clear h2
          obtain rfl : rel = 3 := h1
          go_wp2_with fail
          go_roundw
          case rel => first | exact ⟨k + 1, by omega, by go_num, Lib.hid (by rw [take_succZ _ HR.out, List.all_append, HT.out, List.all_cons, HH.out]; rfl), hxd⟩ | ((repeat (apply Exists.intro (α := Value))); exact ⟨⟨k + 1, by omega, by go_num, Lib.hid (by rw [take_succZ _ HR.out, List.all_append, HT.out, List.all_cons, HH.out]; rfl), hxd⟩, rfl⟩)
          case measure => simp [intOf]; omega
      · have HH : Hid (r.holdZ n x = true) := Lib.hid (by rw [HDR.out, h4])
        have e1 : ((rel : Int) == 1) = false := by simp; omega
        have e2 : ((rel : Int) == 2) = false := by simp; omega
        have e3 : ((rel : Int) == 3) = false := by simp; omega
        clear h4
        go_wp2_with fail
        go_roundw
        case rel => first | exact ⟨k + 1, by omega, by go_num, Lib.hid (by rw [take_succZ _ HR.out, List.all_append, HT.out, List.all_cons, HH.out]; rfl), hxd⟩ | ((repeat (apply Exists.intro (α := Value))); exact ⟨⟨k + 1, by omega, by go_num, Lib.hid (by rw [take_succZ _ HR.out, List.all_append, HT.out, List.all_cons, HH.out]; rfl), hxd⟩, rfl⟩)
        case measure => simp [intOf]; omega
    · obtain rfl : k = m := by omega
      have HE : Hid (holdsZ ip.rows n x = true) := Lib.hid (by have := HT.out; rwa [List.take_of_length_le (by rw [HM.out]; exact Nat.le_refl _)] at this)
      go_wp2_with fail
      go_ret
      exact ⟨by rw [HE.out]; rfl, hE0.trans hx⟩
end Go.Proofs.Ythafabkjidifeaa.Lp

namespace Go.Proofs.Ythafabkjidifeaa.Lp
open Go.RowKit Go.Proofs.Ythafabkjidifeaa.Big Go.Proofs.Ythafabkjidifeaa.Rt

/-- numbers of 32 bits, of whatever length -/
def IRow.okW (r : IRow) : Prop := (∀ z ∈ r.coef, in32 z) ∧ in32 r.right ∧ r.rel ≤ 255
def IP.okW (p : IP) : Prop := (∀ z ∈ p.obj, in32 z) ∧ p.den ≤ 255 ∧ ∀ r ∈ p.rows, IRow.okW r
theorem infoIRowZ : (Try.prog.info? 52).map (fun i => (i.zero, i.size, i.bytes)) = some (some (.agg #[.slice none 0 0, .int .u8 0, .int .i32 0]), 3, 32) := by kernel_rfl
theorem zIRowZ : ∀ u ∈ (Value.agg #[.slice none 0 0, .int .u8 0, .int .i32 0]).cells.toList, noU u = true := fun u hu => by
  simp [Value.cells] at hu
  rcases hu with rfl | rfl | rfl <;> rfl
theorem new3Z (w : World) (E : TypeId) (a b c : Value) : ∀ j y, [a, b, c][j]? = some y → (w.alloc (.cells #[a, b, c] E)).cell? ⟨w.heap.size, j, none⟩ = some y := by
  intro j y hj
  rw [(Box.new w E #[a, b, c]).cell j, ← hj]
  exact List.getElem?_toArray
theorem one3Z {A0 : Option Addr} {n0 c0 : Nat} {r q : Int} : ∀ y ∈ [Value.slice A0 n0 c0, .int .u8 r, .int .i32 q], y.oneCell' = true := fun y hy => by
  simp at hy
  rcases hy with rfl | rfl | rfl <;> rfl
theorem nou3Z {A0 : Option Addr} {n0 c0 : Nat} {r q : Int} : ∀ y ∈ [Value.slice A0 n0 c0, .int .u8 r, .int .i32 q], noU y = true := fun y hy => by
  simp at hy
  rcases hy with rfl | rfl | rfl <;> rfl
/-- a list that lies below B0 or in a block of 32-bit integers -/
def SafeB (w : World) (B0 : Nat) (A : Option Addr) : Prop := ∀ b off, A = some ⟨b, off, none⟩ → b < B0 ∨ ∃ cs, w.heap[b]? = some (.cells cs 21 (0, 0))
def ZRX (w : World) (B0 : Nat) (X : Nat → Option Value) (off : Nat) (r : IRow) : Prop :=
  ∃ A c, X off = some (.slice A r.coef.length c) ∧ X (off + 1) = some (.int .u8 (r.rel : Int)) ∧ X (off + 2) = some (.int .i32 r.right) ∧ Row w (.slice A r.coef.length c) (wV r.coef) ∧ SafeB w B0 A
def ZRows (w : World) (B0 : Nat) (X : Nat → Option Value) (rows : List IRow) : Prop := ∀ j r, rows[j]? = some r → ZRX w B0 X (j * 3) r
def OwnIR (w : World) (B0 : Nat) (v : Value) (n : Nat) (rows : List IRow) : Prop := rows.length = n ∧ ∃ xs, OwnX w B0 52 3 v n xs ∧ ZRows w B0 (fun i => xs[i]?) rows
section
variable {w w' : World} {B0 : Nat}
theorem Row.frS {P : Nat → Prop} {A : Option Addr} {n c : Nat} {vs : List Value} (h : Row w (.slice A n c) vs) (s : SafeB w B0 A) (f : Fr P w w') (hP : ∀ b, P b → B0 ≤ b ∧ ∀ cs, w.heap[b]? ≠ some (.cells cs 21 (0, 0))) : Row w' (.slice A n c) vs ∧ SafeB w' B0 A := by
  obtain ⟨hn, h1, h2, h3⟩ := h.inj
  subst hn
  have key : ∀ b off, A = some ⟨b, off, none⟩ → ¬ P b := fun b off e hp => by
    obtain ⟨a1, a2⟩ := hP b hp
    rcases s b off e with h4 | ⟨cs, h4⟩
    · omega
    · exact a2 cs h4
  refine ⟨⟨A, c, rfl, h1, h2, fun hn => ?_⟩, fun b off e => ?_⟩
  · obtain ⟨b, off, e, hc⟩ := h3 hn
    exact ⟨b, off, e, fun j u hj => f.cell (key b off e) (hc j u hj)⟩
  · rcases s b off e with h4 | ⟨cs, h4⟩
    · exact .inl h4
    · exact .inr ⟨cs, f.row (key b off e) h4⟩
theorem ZRX.fr {P : Nat → Prop} {X : Nat → Option Value} {off : Nat} {r : IRow} (h : ZRX w B0 X off r) (f : Fr P w w') (hP : ∀ b, P b → B0 ≤ b ∧ ∀ cs, w.heap[b]? ≠ some (.cells cs 21 (0, 0))) : ZRX w' B0 X off r := by
  obtain ⟨A, c, h1, h2, h3, h4, h5⟩ := h
  obtain ⟨h6, h7⟩ := h4.frS h5 f hP
  exact ⟨A, c, h1, h2, h3, h6, h7⟩
theorem ZRX.X {X Y : Nat → Option Value} {off off' : Nat} {r : IRow} (h : ZRX w B0 X off r) (e : ∀ i, i < 3 → Y (off' + i) = X (off + i)) : ZRX w B0 Y off' r := by
  obtain ⟨A, c, h1, h2, h3, h4, h5⟩ := h
  exact ⟨A, c, (e 0 (by omega)).trans h1, (e 1 (by omega)).trans h2, (e 2 (by omega)).trans h3, h4, h5⟩
theorem ZRows.fr {P : Nat → Prop} {X : Nat → Option Value} {rows : List IRow} (h : ZRows w B0 X rows) (f : Fr P w w') (hP : ∀ b, P b → B0 ≤ b ∧ ∀ cs, w.heap[b]? ≠ some (.cells cs 21 (0, 0))) : ZRows w' B0 X rows := fun j r hj => (h j r hj).fr f hP
theorem ZRows.ext {X : Nat → Option Value} {rows : List IRow} (h : ZRows w B0 X rows) (k : Ext w w') : ZRows w' B0 X rows := h.fr (P := fun _ => False) (Fr.of k) (fun _ h => h.elim)
theorem ZRX.ext {X : Nat → Option Value} {off : Nat} {r : IRow} (h : ZRX w B0 X off r) (k : Ext w w') : ZRX w' B0 X off r := h.fr (P := fun _ => False) (Fr.of k) (fun _ h => h.elim)
theorem ZRows.push {xs ys : List Value} {rows : List IRow} {r : IRow} (h : ZRows w B0 (fun i => xs[i]?) rows) (hl : xs.length = rows.length * 3) (hr : ZRX w B0 (fun i => ys[i]?) 0 r) : ZRows w B0 (fun i => (xs ++ ys)[i]?) (rows ++ [r]) := by
  intro j s hj
  rcases Nat.lt_or_ge j rows.length with hlt | hge
  · rw [List.getElem?_append_left hlt] at hj
    exact (h j s hj).X fun i hi => List.getElem?_append_left (by omega)
  · rw [List.getElem?_append_right hge] at hj
    have hj0 : j - rows.length = 0 := by
      have := (List.getElem?_eq_some_iff.1 hj).1; simp at this; omega
    rw [hj0] at hj
    obtain rfl := Option.some.inj hj
    refine hr.X fun i hi => ?_
    show (xs ++ ys)[j * 3 + i]? = ys[0 + i]?
    rw [List.getElem?_append_right (by omega), hl]
    congr 1; omega
theorem OwnIR.nil (w : World) (B0 : Nat) : OwnIR w B0 (.slice none 0 0) 0 [] := ⟨rfl, [], OwnX.nil _ _ _ _, fun j r hj => by cases hj⟩
theorem OwnIR.fr {P : Nat → Prop} {v : Value} {n : Nat} {rows : List IRow} (h : OwnIR w B0 v n rows) (f : Fr P w w') (hP : ∀ b, P b → B0 ≤ b ∧ ∀ cs, w.heap[b]? ≠ some (.cells cs 21 (0, 0))) (hQ : ∀ b, P b → ∀ cs, w.heap[b]? ≠ some (.cells cs 52 (0, 0))) : OwnIR w' B0 v n rows := by
  obtain ⟨h1, xs, h2, h3⟩ := h
  exact ⟨h1, xs, h2.fr f (fun g hg hp => by obtain ⟨-, -, cur, h4⟩ := h2.lt hg; exact hQ g hp cur h4), h3.fr f hP⟩
theorem OwnIR.ext {v : Value} {n : Nat} {rows : List IRow} (h : OwnIR w B0 v n rows) (k : Ext w w') : OwnIR w' B0 v n rows := by
  obtain ⟨h1, xs, h2, h3⟩ := h
  exact ⟨h1, xs, h2.ext k, h3.ext k⟩
theorem OwnIR.shape {v : Value} {n : Nat} {rows : List IRow} (h : OwnIR w B0 v n rows) : ∃ A c, v = .slice A n c := by
  obtain ⟨-, xs, h2, -⟩ := h
  exact h2.shape
theorem OwnIR.ipv {Ao A : Option Addr} {n co m c : Nat} {ip : IP} (h : OwnIR w B0 (.slice A m c) m ip.rows) (ho : Row w (.slice Ao n co) (wV ip.obj)) : IPV w (.agg #[.slice Ao n co, .slice A m c, .int .u8 (ip.den : Int)]) ip := by
  obtain ⟨h1, xs, h2, h3⟩ := h
  obtain ⟨hn, -⟩ := ho.inj
  rw [wV_len] at hn
  subst hn h1
  obtain ⟨A', c', e, g1, g2, g3⟩ := irows_view h2 (fun j r hj => by obtain ⟨A, c, a1, a2, a3, a4, -⟩ := h3 j r hj; exact ⟨A, c, a1, a2, a3, a4⟩)
  injection e with e1 e2 e3
  subst e1 e3
  exact ⟨Ao, co, A, c, rfl, ho, g1, g2, g3⟩
/-- a row appended and the list stored -/
theorem ir_push {y : World} {qb k : Nat} {rows : List IRow} {r : IRow} {xs news : List Value} {v v6 a v0 c : Value} (hlen : rows.length = k) (o : OwnX w B0 52 3 v k xs) (hZ : ZRows w B0 (fun i => xs[i]?) rows) (hr : ZRX w B0 (fun i => news[i]?) 0 r)
    (o6 : OwnX y B0 52 3 v6 (k + 1) (xs ++ news)) (r6 : Fr (fun g => v.ownBlock = some g) w y) (QB : Box y qb 25 #[a, v0, c]) (hqb : B0 ≤ qb) (hn : ∀ z, v0 ≠ .int .u32 z) :
    OwnIR (y.setCell ⟨qb, 1, none⟩ v6) B0 v6 (k + 1) (rows ++ [r]) ∧ Fr (fun g => v.ownBlock = some g ∨ g = qb) w (y.setCell ⟨qb, 1, none⟩ v6) := by
  have F2 : Fr (fun g => g = qb) y (y.setCell ⟨qb, 1, none⟩ v6) := (Fr.refl (fun g => g = qb) y).set (p := ⟨qb, 1, none⟩) rfl (fun z => by rw [QB.c1]; intro e; injection e with e; exact hn z e) _
  have hP1 : ∀ b, v.ownBlock = some b → B0 ≤ b ∧ ∀ cs, w.heap[b]? ≠ some (.cells cs 21 (0, 0)) := fun b hb => by
    obtain ⟨h1, -, cur, h2⟩ := o.lt hb
    refine ⟨h1, fun cs e => ?_⟩
    rw [h2] at e
    injection e with e
    injection e with _ e
    exact absurd e (by decide)
  have hP2 : ∀ b, b = qb → B0 ≤ b ∧ ∀ cs, y.heap[b]? ≠ some (.cells cs 21 (0, 0)) := fun b hb => by
    subst hb
    refine ⟨hqb, fun cs e => ?_⟩
    have hQ : y.heap[b]? = some (.cells #[a, v0, c] 25 (0, 0)) := QB
    rw [hQ] at e
    injection e with e
    injection e with _ e
    exact absurd e (by decide)
  refine ⟨⟨by rw [List.length_append, hlen]; rfl, xs ++ news, o6.fr F2 (fun g hg e => ?_), (((hZ.fr r6 hP1).push (by rw [o.1, hlen]) (hr.fr r6 hP1)).fr F2 hP2)⟩, (r6.weak (fun b hb => .inl hb)).trans (F2.weak (fun b hb => .inr hb))⟩
  obtain ⟨-, -, cur, hcur⟩ := o6.lt hg
  have hQ : y.heap[qb]? = some (.cells #[a, v0, c] 25 (0, 0)) := QB
  rw [e, hQ] at hcur
  injection hcur with hcur
  injection hcur with _ hcur
  exact absurd hcur (by decide)
end
/-! a made list of 32-bit integers -/
theorem infoI32Z : (Try.prog.info? 21).map (fun i => (i.zero, i.size, i.bytes)) = some (some (.int .i32 0), 1, 4) := by kernel_rfl
def zerosL (n : Nat) : Array Value := madeCells (Value.int .i32 0).cells (n * 1)
theorem run_makeL (n : Nat) (hn : n ≤ 1099511627776) (w : World) : (Instr.makeSlice 22 (.int .i64 (n : Int)) (.int .i64 (n : Int))).run Try.prog w = .ok (.slice (some ⟨w.heap.size, 0, none⟩) n n) (w.alloc (.cells (zerosL n) 21)) := by
  obtain ⟨i0, hi, hz0, hz1, hz2⟩ := info_parts infoI32Z
  have h := run_make (P := Try.prog) w 22 21 i0 _ Try.underlying22 hi hz0 .i64 .i64 n n (by omega) (by omega) (by rw [hz2]; omega) (by omega)
  simp only [Int.toNat_natCast] at h
  rw [hz1] at h
  exact h
theorem zerosL_get {n j : Nat} (h : j < n) : (zerosL n)[j]? = some (.int .i32 0) := by
  simp [zerosL, madeCells, Value.cells, h, Nat.mod_one]
theorem zerosL_size (n : Nat) : (zerosL n).size = n := by unfold zerosL; rw [size_madeCells]; omega
/-- the row of one -/
theorem unit_row {w : World} {g n j : Nat} (hB : Box w g 21 (zerosL n)) (hj : j < n) (hn : n ≤ 1000) :
    Row (w.setCell ⟨g, j, none⟩ (.int .i32 1)) (.slice (some ⟨g, 0, none⟩) n n) (wV (unitZ n j)) ∧ SafeB (w.setCell ⟨g, j, none⟩ (.int .i32 1)) 0 (some ⟨g, 0, none⟩) := by
  have hB2 := hB.set j (.int .i32 1)
  have hl : (wV (unitZ n j)).length = n := by rw [wV_len, unitZ_len]
  refine ⟨⟨some ⟨g, 0, none⟩, n, by rw [hl], by omega, by omega, fun _ => ⟨g, 0, rfl, fun i u hi => ?_⟩⟩, fun b off e => .inr ?_⟩
  · have hil : i < n := by have := (List.getElem?_eq_some_iff.1 hi).1; omega
    rw [Nat.zero_add, hB2.cell i]
    have hu : (unitZ n j)[i]? = some (if i = j then 1 else 0) := by
      unfold unitZ
      rw [List.getElem?_map, List.getElem?_range hil]; rfl
    rw [wV_get hu] at hi
    rw [← hi]
    by_cases e : i = j
    · subst e
      rw [Array.getElem?_setIfInBounds_self_of_lt (by rw [zerosL_size]; omega), if_pos rfl]
    · rw [Array.getElem?_setIfInBounds_ne (fun h => e h.symm), zerosL_get hil, if_neg e]
  · injection e with e
    injection e with e
    subst e
    exact ⟨_, hB2⟩
end Go.Proofs.Ythafabkjidifeaa.Lp

namespace Go.Proofs.Ythafabkjidifeaa.Lp
open Go.RowKit Go.Proofs.Ythafabkjidifeaa.Big Go.Proofs.Ythafabkjidifeaa.Rt

def BxPost (ip : IP) (v : Value) (w : World) (e : Ending) (w' : World) : Prop :=
  Ext w w' ∧ ((∃ v', boxZ ip = true ∧ e = .returned (.tuple #[v', .bool true]) ∧ IPV w' v' ip.boxed) ∨ (boxZ ip = false ∧ e = .returned (.tuple #[v, .bool false])))
set_option maxHeartbeats 2000000 in
set_option maxRecDepth 100000 in
theorem boxed_b (v : Value) (ip : IP) (w : World) (h : IPV w v ip) (hok : ip.okW) : Calls Try.prog 12 #[v] w (BxPost ip v w) := by
  obtain ⟨Ao, co, Ar, cr, rfl, ho, hmc, hmc2, hrows⟩ := id h
  obtain ⟨n, hn⟩ : ∃ n, n = ip.obj.length := ⟨_, rfl⟩
  obtain ⟨m, hm⟩ : ∃ n, n = ip.rows.length := ⟨_, rfl⟩
  obtain ⟨d, hd⟩ : ∃ n, n = ip.den := ⟨_, rfl⟩
  have HBD : Hid (boxZ ip = (decide (1 ≤ n) && decide (n ≤ 3) && decide (m ≤ 5) && ip.obj.all inZ && ip.rows.all (rowZB n))) := Lib.hid (by rw [hn, hm]; rfl)
  rw [← hn] at ho h
  rw [← hm] at hmc hrows h
  rw [← hd] at h
  rw [← hn, ← hm, ← hd]
  have HN := Lib.hid hn
  have HM := Lib.hid hm
  have HROW := Lib.hid hrows
  have HOK := Lib.hid hok
  clear hn hm hd hrows hok
  obtain ⟨PB, SB, hE0⟩ := boxes2 w 25 #[.slice Ao n co, .slice Ar m cr, .int .u8 (d : Int)] #[.slice none 0 0, .slice none 0 0, .int .u8 0]
  go_enter Try.func12, Try.ntmps12
  go_upto_region 2 with fail
  generalize ((w.alloc (.cells #[.slice Ao n co, .slice Ar m cr, .int .u8 (d : Int)] 25)).alloc (.cells #[.slice none 0 0, .slice none 0 0, .int .u8 0] 25)) = V at *
  obtain ⟨sb, hsb⟩ : ∃ x, x = w.heap.size + 1 := ⟨_, rfl⟩
  obtain ⟨pb, hpb⟩ : ∃ x, x = w.heap.size := ⟨_, rfl⟩
  rw [← hsb] at SB ⊢
  rw [← hpb] at PB ⊢
  have hsw : w.heap.size ≤ sb := by omega
  have hps : pb ≠ sb := by omega
  have hpw : w.heap.size ≤ pb := by omega
  clear hsb hpb
  have c0 := PB.c0
  have c1 := PB.c1
  by_cases h1 : 1 ≤ n
  case neg =>
    have HBF : Hid (boxZ ip = false) := Lib.hid (by rw [HBD.out, decide_eq_false h1]; rfl)
    have g1 : decide ((n : Int) < 1) = true := by simp; omega
    have PBx := PB
    have SBx := SB
    have hEx := hE0
    clear h1 PB SB hE0 c1
    have p0 := PBx.c0
    have p1 := PBx.c1
    have p2 := PBx.c2
    have y0 := SBx.c0
    have y1 := SBx.c1
    have y2 := SBx.c2
    have z0 := SBx.frozen 0
    have z1 := SBx.frozen 1
    have z2 := SBx.frozen 2
    have SBe := ((SBx.set 0 (.slice (Ao) (n) co)).set 1 (.slice (Ar) (m) cr)).set 2 (.int .u8 (d : Int))
    have s0 := SBe.c0
    have s1 := SBe.c1
    have s2 := SBe.c2
    have hxe := ((hEx.set (p := ⟨sb, 0, none⟩) hsw (.slice (Ao) (n) co)).set (p := ⟨sb, 1, none⟩) hsw (.slice (Ar) (m) cr)).set (p := ⟨sb, 2, none⟩) hsw (.int .u8 (d : Int))
    clear SBe
    go_wp2_with fail
    refine bodyPost_ret (v := .tuple #[.agg #[.slice (Ao) (n) co, .slice (Ar) (m) cr, .int .u8 (d : Int)], .bool false]) (by simp [results, Try.results12, go_sem, s0, s1, s2]) rfl ?_
    exact ⟨hxe, .inr ⟨HBF.out, rfl⟩⟩
  case pos =>
  have g1 : decide ((n : Int) < 1) = false := by simp; omega
  by_cases h3 : n ≤ 3
  case neg =>
    have HBF : Hid (boxZ ip = false) := Lib.hid (by rw [HBD.out, decide_eq_false h3]; simp)
    have g3 : decide ((3 : Int) < (n : Int)) = true := by simp; omega
    have PBx := PB
    have SBx := SB
    have hEx := hE0
    clear h1 h3 PB SB hE0 c1
    have p0 := PBx.c0
    have p1 := PBx.c1
    have p2 := PBx.c2
    have y0 := SBx.c0
    have y1 := SBx.c1
    have y2 := SBx.c2
    have z0 := SBx.frozen 0
    have z1 := SBx.frozen 1
    have z2 := SBx.frozen 2
    have SBe := ((SBx.set 0 (.slice (Ao) (n) co)).set 1 (.slice (Ar) (m) cr)).set 2 (.int .u8 (d : Int))
    have s0 := SBe.c0
    have s1 := SBe.c1
    have s2 := SBe.c2
    have hxe := ((hEx.set (p := ⟨sb, 0, none⟩) hsw (.slice (Ao) (n) co)).set (p := ⟨sb, 1, none⟩) hsw (.slice (Ar) (m) cr)).set (p := ⟨sb, 2, none⟩) hsw (.int .u8 (d : Int))
    clear SBe
    go_wp2_with fail
    refine bodyPost_ret (v := .tuple #[.agg #[.slice (Ao) (n) co, .slice (Ar) (m) cr, .int .u8 (d : Int)], .bool false]) (by simp [results, Try.results12, go_sem, s0, s1, s2]) rfl ?_
    exact ⟨hxe, .inr ⟨HBF.out, rfl⟩⟩
  case pos =>
  have g3 : decide ((3 : Int) < (n : Int)) = false := by simp; omega
  by_cases h5 : m ≤ 5
  case neg =>
    have HBF : Hid (boxZ ip = false) := Lib.hid (by rw [HBD.out, decide_eq_false h5]; simp)
    have g5 : decide ((5 : Int) < (m : Int)) = true := by simp; omega
    have PBx := PB
    have SBx := SB
    have hEx := hE0
    clear h5 PB SB hE0
    have p0 := PBx.c0
    have p1 := PBx.c1
    have p2 := PBx.c2
    have y0 := SBx.c0
    have y1 := SBx.c1
    have y2 := SBx.c2
    have z0 := SBx.frozen 0
    have z1 := SBx.frozen 1
    have z2 := SBx.frozen 2
    have SBe := ((SBx.set 0 (.slice (Ao) (n) co)).set 1 (.slice (Ar) (m) cr)).set 2 (.int .u8 (d : Int))
    have s0 := SBe.c0
    have s1 := SBe.c1
    have s2 := SBe.c2
    have hxe := ((hEx.set (p := ⟨sb, 0, none⟩) hsw (.slice (Ao) (n) co)).set (p := ⟨sb, 1, none⟩) hsw (.slice (Ar) (m) cr)).set (p := ⟨sb, 2, none⟩) hsw (.int .u8 (d : Int))
    clear SBe
    go_wp2_with fail
    refine bodyPost_ret (v := .tuple #[.agg #[.slice (Ao) (n) co, .slice (Ar) (m) cr, .int .u8 (d : Int)], .bool false]) (by simp [results, Try.results12, go_sem, s0, s1, s2]) rfl ?_
    exact ⟨hxe, .inr ⟨HBF.out, rfl⟩⟩
  case pos =>
  have g5 : decide ((5 : Int) < (m : Int)) = false := by simp; omega
  have HB2 : Hid (boxZ ip = (ip.obj.all inZ && ip.rows.all (rowZB n))) := Lib.hid (by rw [HBD.out, decide_eq_true h1, decide_eq_true h3, decide_eq_true h5]; simp)
  clear HBD
  go_upto_region 5 with fail
  clear g1 g3 g5 c1
  have QB := Box.new V 25 #[.slice Ao n co, .slice none 0 0, .int .u8 0]
  have hx1 : Ext V (V.alloc (.cells #[.slice Ao n co, .slice none 0 0, .int .u8 0] 25)) := (Ext.refl V).alloc _
  generalize (V.alloc (.cells #[.slice Ao n co, .slice none 0 0, .int .u8 0] 25)) = U at *
  obtain ⟨qb, hqb⟩ : ∃ x, x = V.heap.size := ⟨_, rfl⟩
  rw [← hqb] at QB ⊢
  have hqw : w.heap.size ≤ qb := by have := hE0.size; omega
  have hpq : pb ≠ qb := by have := PB.lt; omega
  have hsq : sb ≠ qb := by have := SB.lt; omega
  clear hqb
  have PB1 := PB.ext hx1
  have SB1 := SB.ext hx1
  have hE1 := hE0.trans hx1
  clear PB SB hE0 hx1 c0
  have c0 := PB1.c0
  go_upto_region 6 with fail
  clear c0
  go_loopw [37] (fun i wr => ∃ k : Nat, k ≤ n ∧ i = .int .i64 k ∧ Hid ((ip.obj.take k).all inZ = true) ∧ Ext U wr) (fun i _ => n - (intOf i).toNat)
  case atStart => exact ⟨0, by omega, rfl, Lib.hid rfl, Ext.refl U⟩
  case round =>
    obtain ⟨k, hk, rfl, HT, hx⟩ := hrel
    by_cases hlt : k < n
    · obtain ⟨-, hcA, hcA2, hrow⟩ := ho.inj
      rw [wV_len] at hrow hcA
      obtain ⟨b, off, rfl, hcell⟩ := hrow (by rw [← HN.out]; omega)
      obtain ⟨x, hxk⟩ : ∃ x, ip.obj[k]? = some x := ⟨_, List.getElem?_eq_getElem (by have := HN.out; omega)⟩
      have e0 := (hE1.trans hx).cell (hcell k _ (wV_get hxk))
      have hx32 : in32 x := HOK.out.1 x (List.mem_of_getElem? hxk)
      have HXK := Lib.hid hxk
      clear hxk hcell hrow hcA hcA2
      go_wp2_with fail
      refine (inz_b x _ hx32).mono ?_
      rintro e w5 ⟨rfl, rfl⟩
      obtain ⟨I, hI⟩ : ∃ F, F = inZ x := ⟨_, rfl⟩
      rw [← hI]
      have HI := Lib.hid hI
      clear hI e0
      cases I with
      | false =>
        have HBF : Hid (boxZ ip = false) := Lib.hid (by rw [HB2.out, all_take_noZ HXK.out HI.out.symm]; rfl)
        have PBx := PB1.ext hx
        have SBx := SB1.ext hx
        have hEx := hE1.trans hx
        have p0 := PBx.c0
        have p1 := PBx.c1
        have p2 := PBx.c2
        have y0 := SBx.c0
        have y1 := SBx.c1
        have y2 := SBx.c2
        have z0 := SBx.frozen 0
        have z1 := SBx.frozen 1
        have z2 := SBx.frozen 2
        have SBe := ((SBx.set 0 (.slice (some ⟨b, off, none⟩) (n) co)).set 1 (.slice (Ar) (m) cr)).set 2 (.int .u8 (d : Int))
        have s0 := SBe.c0
        have s1 := SBe.c1
        have s2 := SBe.c2
        have hxe := ((hEx.set (p := ⟨sb, 0, none⟩) hsw (.slice (some ⟨b, off, none⟩) (n) co)).set (p := ⟨sb, 1, none⟩) hsw (.slice (Ar) (m) cr)).set (p := ⟨sb, 2, none⟩) hsw (.int .u8 (d : Int))
        clear SBe
        go_wp2_with fail
        refine bodyPost_ret (v := .tuple #[.agg #[.slice (some ⟨b, off, none⟩) (n) co, .slice (Ar) (m) cr, .int .u8 (d : Int)], .bool false]) (by simp [results, Try.results12, go_sem, s0, s1, s2]) rfl ?_
        exact ⟨hxe, .inr ⟨HBF.out, rfl⟩⟩
      | true =>
        go_wp2_with fail
        go_roundw
        case rel => exact ⟨k + 1, by omega, by go_num, Lib.hid (by rw [take_succZ _ HXK.out, List.all_append, HT.out, List.all_cons, ← HI.out]; rfl), hx⟩
        case measure => simp [intOf]; omega
    · obtain rfl : k = n := by omega
      have HOA : Hid (ip.obj.all inZ = true) := Lib.hid (by have := HT.out; rwa [List.take_of_length_le (by rw [HN.out]; exact Nat.le_refl _)] at this)
      have HB3 : Hid (boxZ ip = ip.rows.all (rowZB k)) := Lib.hid (by rw [HB2.out, HOA.out]; rfl)
      have PB2 := PB1.ext hx
      have SB2 := SB1.ext hx
      have QB2 := QB.ext hx
      have hE2 := hE1.trans hx
      obtain ⟨irR, i1', i2', i3', i4'⟩ := info_parts infoIRowZ
      have c1 := PB2.c1
      clear HT HB2 hE1 hx
      go_upto_region 12 with fail
      clear c1
      go_loopw [50] (fun i wr => ∃ (q : Nat) (A : Option Addr) (c : Nat), q ≤ m ∧ i = .int .i64 q ∧ Hid ((ip.rows.take q).all (rowZB k) = true) ∧ OwnIR wr w.heap.size (.slice A q c) q (ip.rows.take q) ∧ Box wr qb 25 #[.slice Ao k co, .slice A q c, .int .u8 0] ∧ Box wr pb 25 #[.slice Ao k co, .slice Ar m cr, .int .u8 (d : Int)] ∧ Box wr sb 25 #[.slice none 0 0, .slice none 0 0, .int .u8 0] ∧ Ext w wr) (fun i _ => m - (intOf i).toNat)
      case atStart => exact ⟨0, none, 0, by omega, rfl, Lib.hid rfl, OwnIR.nil _ _, QB2, PB2, SB2, hE2⟩
      case round =>
        clear QB2 PB2 SB2 hE2
        obtain ⟨q, AR, cR, hq, rfl, HT, hO, QBr, PBr, SBr, hEr⟩ := hrel
        by_cases hlt2 : q < m
        · obtain ⟨b, off, rfl, hrow⟩ := HROW.out (by omega)
          obtain ⟨r, hr⟩ : ∃ r, ip.rows[q]? = some r := ⟨_, List.getElem?_eq_getElem (by have := HM.out; omega)⟩
          obtain ⟨Ac, cc, g0, g1, g2, hrw⟩ := hrow q r hr
          have g0 := hEr.cell g0
          have g1 := hEr.cell g1
          have g2 := hEr.cell g2
          obtain ⟨q1, q2, q3⟩ := HOK.out.2.2 r (List.mem_of_getElem? hr)
          have HR := Lib.hid hr
          have HQ1 := Lib.hid q1
          have hcc := hrw.inj.2.1
          rw [wV_len] at hcc
          have HSF : Hid (0 < r.coef.length → SafeB w w.heap.size Ac) := Lib.hid (fun h9 b' off' e => .inl (by
            obtain ⟨-, -, -, h8⟩ := hrw.inj
            obtain ⟨b2, off2, e2, h10⟩ := h8 (by rw [wV_len]; exact h9)
            rw [e] at e2
            injection e2 with e2
            injection e2 with e2
            subst e2
            exact World.block_lt_of_cell? w _ (h10 0 _ (wV_get (List.getElem?_eq_getElem h9)))))
          obtain ⟨l, hl⟩ : ∃ l, l = r.coef.length := ⟨_, rfl⟩
          obtain ⟨rel, hrl⟩ : ∃ l, l = r.rel := ⟨_, rfl⟩
          obtain ⟨rt, hrt⟩ : ∃ l, l = r.right := ⟨_, rfl⟩
          rw [← hl] at g0 hrw hcc
          rw [← hrl] at g1 q3
          rw [← hrt] at g2 q2
          have HL := Lib.hid hl
          have HRL := Lib.hid hrl
          have HRT := Lib.hid hrt
          have HRB : Hid (rowZB k r = (decide (l = k) && inZ rt && decide (1 ≤ rel) && decide (rel ≤ 3) && r.coef.all inZ)) := Lib.hid (by rw [hl, hrl, hrt]; rfl)
          clear hr hrow q1 hl hrl hrt
          go_upto_region 14 with fail
          have RB := Box.new wr 52 #[.slice Ac l cc, .int .u8 (rel : Int), .int .i32 rt]
          have hEa : Ext wr (wr.alloc (.cells #[.slice Ac l cc, .int .u8 (rel : Int), .int .i32 rt] 52)) := (Ext.refl wr).alloc _
          generalize (wr.alloc (.cells #[.slice Ac l cc, .int .u8 (rel : Int), .int .i32 rt] 52)) = X at *
          obtain ⟨rb, hrb⟩ : ∃ z, z = wr.heap.size := ⟨_, rfl⟩
          rw [← hrb] at RB ⊢
          clear hrb g0 g1 g2
          have PBx := PBr.ext hEa
          have SBx := SBr.ext hEa
          have QBx := QBr.ext hEa
          have hOx := hO.ext hEa
          have hEx := hEr.trans hEa
          clear hEa PBr SBr QBr hO hEr
          have r0 := RB.c0
          have r1 := RB.c1
          have r2 := RB.c2
          have c0 := PBx.c0
          by_cases hlk : l = k
          case neg =>
            have HBF : Hid (boxZ ip = false) := Lib.hid (by rw [HB3.out]; exact all_take_noZ HR.out (by rw [HRB.out, decide_eq_false hlk]; rfl))
            have e1 : ((l : Int) != (k : Int)) = true := by simp; omega
            clear c0
            have p0 := PBx.c0
            have p1 := PBx.c1
            have p2 := PBx.c2
            have y0 := SBx.c0
            have y1 := SBx.c1
            have y2 := SBx.c2
            have z0 := SBx.frozen 0
            have z1 := SBx.frozen 1
            have z2 := SBx.frozen 2
            have SBe := ((SBx.set 0 (.slice (Ao) (k) co)).set 1 (.slice (some ⟨b, off, none⟩) (m) cr)).set 2 (.int .u8 (d : Int))
            have s0 := SBe.c0
            have s1 := SBe.c1
            have s2 := SBe.c2
            have hxe := ((hEx.set (p := ⟨sb, 0, none⟩) hsw (.slice (Ao) (k) co)).set (p := ⟨sb, 1, none⟩) hsw (.slice (some ⟨b, off, none⟩) (m) cr)).set (p := ⟨sb, 2, none⟩) hsw (.int .u8 (d : Int))
            clear SBe
            go_wp2_with fail
            refine bodyPost_ret (v := .tuple #[.agg #[.slice (Ao) (k) co, .slice (some ⟨b, off, none⟩) (m) cr, .int .u8 (d : Int)], .bool false]) (by simp [results, Try.results12, go_sem, s0, s1, s2]) rfl ?_
            exact ⟨hxe, .inr ⟨HBF.out, rfl⟩⟩
          case pos =>
          subst hlk
          have e1 : ((l : Int) != (l : Int)) = false := by simp
          go_wp2_with fail
          refine (inz_b rt _ q2).mono ?_
          rintro e w5 ⟨rfl, hw5⟩
          obtain rfl := hw5.symm
          obtain ⟨I, hI⟩ : ∃ F, F = inZ rt := ⟨_, rfl⟩
          rw [← hI]
          have HI := Lib.hid hI
          clear hI
          cases I with
          | false =>
            have HBF : Hid (boxZ ip = false) := Lib.hid (by rw [HB3.out]; exact all_take_noZ HR.out (by rw [HRB.out, ← HI.out]; simp))
            clear c0
            have p0 := PBx.c0
            have p1 := PBx.c1
            have p2 := PBx.c2
            have y0 := SBx.c0
            have y1 := SBx.c1
            have y2 := SBx.c2
            have z0 := SBx.frozen 0
            have z1 := SBx.frozen 1
            have z2 := SBx.frozen 2
            have SBe := ((SBx.set 0 (.slice (Ao) (l) co)).set 1 (.slice (some ⟨b, off, none⟩) (m) cr)).set 2 (.int .u8 (d : Int))
            have s0 := SBe.c0
            have s1 := SBe.c1
            have s2 := SBe.c2
            have hxe := ((hEx.set (p := ⟨sb, 0, none⟩) hsw (.slice (Ao) (l) co)).set (p := ⟨sb, 1, none⟩) hsw (.slice (some ⟨b, off, none⟩) (m) cr)).set (p := ⟨sb, 2, none⟩) hsw (.int .u8 (d : Int))
            clear SBe
            go_wp2_with fail
            refine bodyPost_ret (v := .tuple #[.agg #[.slice (Ao) (l) co, .slice (some ⟨b, off, none⟩) (m) cr, .int .u8 (d : Int)], .bool false]) (by simp [results, Try.results12, go_sem, s0, s1, s2]) rfl ?_
            exact ⟨hxe, .inr ⟨HBF.out, rfl⟩⟩
          | true =>
          by_cases h8 : 1 ≤ rel
          case neg =>
            have HBF : Hid (boxZ ip = false) := Lib.hid (by rw [HB3.out]; exact all_take_noZ HR.out (by rw [HRB.out, decide_eq_false h8]; simp))
            have e2 : decide ((rel : Int) < 1) = true := by simp; omega
            clear c0 h8
            have p0 := PBx.c0
            have p1 := PBx.c1
            have p2 := PBx.c2
            have y0 := SBx.c0
            have y1 := SBx.c1
            have y2 := SBx.c2
            have z0 := SBx.frozen 0
            have z1 := SBx.frozen 1
            have z2 := SBx.frozen 2
            have SBe := ((SBx.set 0 (.slice (Ao) (l) co)).set 1 (.slice (some ⟨b, off, none⟩) (m) cr)).set 2 (.int .u8 (d : Int))
            have s0 := SBe.c0
            have s1 := SBe.c1
            have s2 := SBe.c2
            have hxe := ((hEx.set (p := ⟨sb, 0, none⟩) hsw (.slice (Ao) (l) co)).set (p := ⟨sb, 1, none⟩) hsw (.slice (some ⟨b, off, none⟩) (m) cr)).set (p := ⟨sb, 2, none⟩) hsw (.int .u8 (d : Int))
            clear SBe
            go_wp2_with fail
            refine bodyPost_ret (v := .tuple #[.agg #[.slice (Ao) (l) co, .slice (some ⟨b, off, none⟩) (m) cr, .int .u8 (d : Int)], .bool false]) (by simp [results, Try.results12, go_sem, s0, s1, s2]) rfl ?_
            exact ⟨hxe, .inr ⟨HBF.out, rfl⟩⟩
          case pos =>
          have e2 : decide ((rel : Int) < 1) = false := by simp; omega
          by_cases h9 : rel ≤ 3
          case neg =>
            have HBF : Hid (boxZ ip = false) := Lib.hid (by rw [HB3.out]; exact all_take_noZ HR.out (by rw [HRB.out, decide_eq_false h9]; simp))
            have e3 : decide ((3 : Int) < (rel : Int)) = true := by simp; omega
            clear c0 h8 h9
            have p0 := PBx.c0
            have p1 := PBx.c1
            have p2 := PBx.c2
            have y0 := SBx.c0
            have y1 := SBx.c1
            have y2 := SBx.c2
            have z0 := SBx.frozen 0
            have z1 := SBx.frozen 1
            have z2 := SBx.frozen 2
            have SBe := ((SBx.set 0 (.slice (Ao) (l) co)).set 1 (.slice (some ⟨b, off, none⟩) (m) cr)).set 2 (.int .u8 (d : Int))
            have s0 := SBe.c0
            have s1 := SBe.c1
            have s2 := SBe.c2
            have hxe := ((hEx.set (p := ⟨sb, 0, none⟩) hsw (.slice (Ao) (l) co)).set (p := ⟨sb, 1, none⟩) hsw (.slice (some ⟨b, off, none⟩) (m) cr)).set (p := ⟨sb, 2, none⟩) hsw (.int .u8 (d : Int))
            clear SBe
            go_wp2_with fail
            refine bodyPost_ret (v := .tuple #[.agg #[.slice (Ao) (l) co, .slice (some ⟨b, off, none⟩) (m) cr, .int .u8 (d : Int)], .bool false]) (by simp [results, Try.results12, go_sem, s0, s1, s2]) rfl ?_
            exact ⟨hxe, .inr ⟨HBF.out, rfl⟩⟩
          case pos =>
          have e3 : decide ((3 : Int) < (rel : Int)) = false := by simp; omega
          have HRB2 : Hid (rowZB l r = r.coef.all inZ) := Lib.hid (by rw [HRB.out, decide_eq_true h8, decide_eq_true h9, ← HI.out]; simp)
          clear c0 h8 h9
          go_upto_region 17 with fail
          clear r0 r1 r2 e1 e2 e3
          go_loopw [82] (fun i wv => ∃ j : Nat, j ≤ l ∧ i = .int .i64 j ∧ Hid ((r.coef.take j).all inZ = true) ∧ Ext X wv) (fun i _ => l - (intOf i).toNat)
          case atStart => exact ⟨0, by omega, rfl, Lib.hid rfl, Ext.refl X⟩
          case round =>
            obtain ⟨j, hj, rfl, HT3, hy⟩ := hrel
            by_cases hlt3 : j < l
            · obtain ⟨x, hxk⟩ : ∃ x, r.coef[j]? = some x := ⟨_, List.getElem?_eq_getElem (by have := HL.out; omega)⟩
              obtain ⟨-, -, -, hrow6⟩ := hrw.inj
              rw [wV_len] at hrow6
              obtain ⟨g6, cs6, rfl, hcell6⟩ := hrow6 (by rw [← HL.out]; omega)
              have e0 := (hEx.trans hy).cell (hcell6 j _ (wV_get hxk))
              have hx32 : in32 x := HQ1.out x (List.mem_of_getElem? hxk)
              have HXK := Lib.hid hxk
              clear hxk hrow6 hcell6
              go_wp2_with fail
              refine (inz_b x _ hx32).mono ?_
              rintro e w7 ⟨rfl, rfl⟩
              obtain ⟨I, hI⟩ : ∃ F, F = inZ x := ⟨_, rfl⟩
              rw [← hI]
              have HI2 := Lib.hid hI
              clear hI e0
              cases I with
              | false =>
                have HBF : Hid (boxZ ip = false) := Lib.hid (by rw [HB3.out]; exact all_take_noZ HR.out (by rw [HRB2.out]; exact all_take_noZ HXK.out HI2.out.symm))
                have PBx := PBx.ext hy
                have SBx := SBx.ext hy
                have hEx := hEx.trans hy
                have p0 := PBx.c0
                have p1 := PBx.c1
                have p2 := PBx.c2
                have y0 := SBx.c0
                have y1 := SBx.c1
                have y2 := SBx.c2
                have z0 := SBx.frozen 0
                have z1 := SBx.frozen 1
                have z2 := SBx.frozen 2
                have SBe := ((SBx.set 0 (.slice (Ao) (l) co)).set 1 (.slice (some ⟨b, off, none⟩) (m) cr)).set 2 (.int .u8 (d : Int))
                have s0 := SBe.c0
                have s1 := SBe.c1
                have s2 := SBe.c2
                have hxe := ((hEx.set (p := ⟨sb, 0, none⟩) hsw (.slice (Ao) (l) co)).set (p := ⟨sb, 1, none⟩) hsw (.slice (some ⟨b, off, none⟩) (m) cr)).set (p := ⟨sb, 2, none⟩) hsw (.int .u8 (d : Int))
                clear SBe
                go_wp2_with fail
                refine bodyPost_ret (v := .tuple #[.agg #[.slice (Ao) (l) co, .slice (some ⟨b, off, none⟩) (m) cr, .int .u8 (d : Int)], .bool false]) (by simp [results, Try.results12, go_sem, s0, s1, s2]) rfl ?_
                exact ⟨hxe, .inr ⟨HBF.out, rfl⟩⟩
              | true =>
                go_wp2_with fail
                go_roundw
                case rel => exact ⟨j + 1, by omega, by go_num, Lib.hid (by rw [take_succZ _ HXK.out, List.all_append, HT3.out, List.all_cons, ← HI2.out]; rfl), hy⟩
                case measure => simp [intOf]; omega
            · obtain rfl : j = l := by omega
              have HRB3 : Hid (rowZB j r = true) := Lib.hid (by rw [HRB2.out]; have := HT3.out; rwa [List.take_of_length_le (by rw [HL.out]; exact Nat.le_refl _)] at this)
              have RBy := RB.ext hy
              have PBy := PBx.ext hy
              have SBy := SBx.ext hy
              have QBy := QBx.ext hy
              have hOy := hOx.ext hy
              have hEy := hEx.trans hy
              obtain ⟨hOl, xs, oX, mX⟩ := hOy
              have r0 := RBy.c0
              have r1 := RBy.c1
              have r2 := RBy.c2
              have q1 := QBy.c1
              have hza : Ext wr (wr.alloc (.cells #[.slice Ac j cc, .int .u8 (rel : Int), .int .i32 rt] 52)) := (Ext.refl wr).alloc _
              have hsz : w.heap.size ≤ (wr.alloc (.cells #[.slice Ac j cc, .int .u8 (rel : Int), .int .i32 rt] 52)).heap.size := (hEy.trans hza).size
              have hnw := new3Z wr 52 (.slice Ac j cc) (.int .u8 (rel : Int)) (.int .i32 rt)
              have hZR : ZRX w w.heap.size (fun i => [Value.slice Ac j cc, .int .u8 (rel : Int), .int .i32 rt][i]?) 0 r := ⟨Ac, cc, by rw [← HL.out]; rfl, by rw [← HRL.out]; rfl, by rw [← HRT.out]; rfl, by rw [← HL.out]; exact hrw, HSF.out (by rw [← HL.out]; omega)⟩
              clear RB PBx SBx QBx hOx hEx hy
              go_upto_region 23 with (at_builtin; refine wpList_pushX rfl (.tmp 93) (.tmp 95) 23 rfl w.heap.size 52 irR _ 3 32 Try.underlying23 i1' i2' i3' i4' rfl zIRowZ _ q xs rfl (oX.ext hza) wr.heap.size [.slice Ac j cc, .int .u8 (rel : Int), .int .i32 rt] 1 rfl rfl hnw one3Z nou3Z (by omega) (by decide) hsz ?_; intro v6 y6 o6 r6 s6; have QB6 := boxR (QBy.ext hza) (oX.ext hza) r6 (by decide); have c6 := QB6.c1; have z6 := QB6.frozen 1; obtain ⟨A6, d6, rfl⟩ := o6.shape)
              obtain ⟨hP1, hF1⟩ := ir_push hOl (oX.ext hza) (mX.ext hza) (hZR.ext (hEy.trans hza)) o6 r6 QB6 hqw (fun z e => by cases e)
              rw [← take_succZ _ HR.out] at hP1
              have QBz := QB6.set 1 (.slice A6 (q + 1) d6)
              have PBz := (boxR (PBy.ext hza) (oX.ext hza) r6 (by decide)).far (p := ⟨qb, 1, none⟩) hpq (.slice A6 (q + 1) d6)
              have SBz := (boxR (SBy.ext hza) (oX.ext hza) r6 (by decide)).far (p := ⟨qb, 1, none⟩) hsq (.slice A6 (q + 1) d6)
              have hEz := hF1.ext (hEy.trans hza) (fun b hb => by
                rcases hb with hb | rfl
                · exact (oX.lt hb).1
                · exact hqw)
              have HT4 : Hid ((ip.rows.take (q + 1)).all (rowZB j) = true) := Lib.hid (by rw [take_succZ _ HR.out, List.all_append, HT.out, List.all_cons, HRB3.out]; rfl)
              generalize (y6.setCell ⟨qb, 1, none⟩ (.slice A6 (q + 1) d6)) = Z at *
              clear r0 r1 r2 q1 hza hsz hnw hZR QB6 c6 z6 hF1 o6 r6 s6 oX mX RBy PBy SBy QBy hEy
              go_wp2_with fail
              go_roundw
              case rel => exact ⟨q + 1, A6, d6, by omega, by go_num, HT4, hP1, QBz, PBz, SBz, hEz⟩
              case measure => simp [intOf]; omega
        · obtain rfl : q = m := by omega
          have hTL : ip.rows.take q = ip.rows := List.take_of_length_le (by rw [HM.out]; exact Nat.le_refl _)
          have HBT : Hid (boxZ ip = true) := Lib.hid (by rw [HB3.out]; have := HT.out; rwa [hTL] at this)
          rw [hTL] at hO
          have c0 := PBr.c0
          go_upto_region 25 with fail
          clear c0 hTL
          go_loopw [102] (fun i wv => ∃ (j : Nat) (A : Option Addr) (c : Nat), j ≤ k ∧ i = .int .i64 j ∧ OwnIR wv w.heap.size (.slice A (q + j) c) (q + j) (ip.rows ++ (List.range j).map (boxRowZ k)) ∧ Box wv qb 25 #[.slice Ao k co, .slice A (q + j) c, .int .u8 0] ∧ Box wv pb 25 #[.slice Ao k co, .slice Ar q cr, .int .u8 (d : Int)] ∧ Box wv sb 25 #[.slice none 0 0, .slice none 0 0, .int .u8 0] ∧ Ext w wv) (fun i _ => k - (intOf i).toNat)
          case atStart => exact ⟨0, AR, cR, by omega, rfl, by simpa using hO, QBr, PBr, SBr, hEr⟩
          case round =>
            clear hO QBr PBr SBr hEr
            obtain ⟨j, AJ, cJ, hj, rfl, hO, QBr, PBr, SBr, hEr⟩ := hrel
            by_cases hlj : j < k
            · obtain ⟨N, hN⟩ : ∃ N, N = q + j := ⟨_, rfl⟩
              rw [← hN] at hO QBr
              have HNN := Lib.hid hN
              have hN9 : N ≤ 100 := by omega
              have c0 := PBr.c0
              have hmk := run_makeL k (by omega)
              clear hN
              go_upto_region 28 with fail
              have UB := Box.new wr 21 (zerosL k)
              have hx3 : Ext wr (wr.alloc (.cells (zerosL k) 21)) := (Ext.refl wr).alloc _
              generalize (wr.alloc (.cells (zerosL k) 21)) = Y at *
              obtain ⟨ub, hub⟩ : ∃ x, x = wr.heap.size := ⟨_, rfl⟩
              rw [← hub] at UB ⊢
              have hub2 : wr.heap.size ≤ ub := by omega
              clear hub c0 hmk
              have hx4 : Ext wr (Y.setCell ⟨ub, j, none⟩ (.int .i32 1)) := hx3.set (p := ⟨ub, j, none⟩) hub2 _
              obtain ⟨hu1, hu2⟩ := unit_row UB hlj (by omega)
              have u0 := UB.frozen j
              have i1 : (0 : Int) ≤ (j : Int) := by omega
              have i2 : (j : Int) < (k : Int) := by omega
              have uc : Y.cell? ⟨ub, j, none⟩ = some (.int .i32 0) := (UB.cell j).trans (zerosL_get hlj)
              go_upto_region 29 with fail
              generalize (Y.setCell ⟨ub, j, none⟩ (.int .i32 1)) = W at *
              have PBy := PBr.ext hx4
              have SBy := SBr.ext hx4
              have QBy := QBr.ext hx4
              have hOy := hO.ext hx4
              have hEy := hEr.trans hx4
              obtain ⟨hOl, xs, oX, mX⟩ := hOy
              have q1 := QBy.c1
              have hza : Ext W (W.alloc (.cells #[.slice (some ⟨ub, 0, none⟩) k k, .int .u8 1, .int .i32 3] 52)) := (Ext.refl W).alloc _
              have hsz : w.heap.size ≤ (W.alloc (.cells #[.slice (some ⟨ub, 0, none⟩) k k, .int .u8 1, .int .i32 3] 52)).heap.size := (hEy.trans hza).size
              have hnw := new3Z W 52 (.slice (some ⟨ub, 0, none⟩) k k) (.int .u8 1) (.int .i32 3)
              have hZR : ZRX W w.heap.size (fun i => [Value.slice (some ⟨ub, 0, none⟩) k k, .int .u8 1, .int .i32 3][i]?) 0 (boxRowZ k j) := ⟨some ⟨ub, 0, none⟩, k, by show some (Value.slice (some ⟨ub, 0, none⟩) k k) = some (Value.slice (some ⟨ub, 0, none⟩) (unitZ k j).length k); rw [unitZ_len], rfl, rfl, by show Row W (.slice (some ⟨ub, 0, none⟩) (unitZ k j).length k) (wV (unitZ k j)); rw [unitZ_len]; exact hu1, fun b off e => by
                rcases hu2 b off e with h | h
                · omega
                · exact .inr h⟩
              clear hx3 hx4 UB u0 uc i1 i2 hu1 hu2 PBr SBr QBr hO hEr hub2
              go_upto_region 30 with (at_builtin; refine wpList_pushX rfl (.tmp 113) (.tmp 116) 23 rfl w.heap.size 52 irR _ 3 32 Try.underlying23 i1' i2' i3' i4' rfl zIRowZ _ N xs rfl (oX.ext hza) W.heap.size [.slice (some ⟨ub, 0, none⟩) k k, .int .u8 1, .int .i32 3] 1 rfl rfl hnw one3Z nou3Z (by omega) (by decide) hsz ?_; intro v6 y6 o6 r6 s6; have QB6 := boxR (QBy.ext hza) (oX.ext hza) r6 (by decide); have c6 := QB6.c1; have z6 := QB6.frozen 1; obtain ⟨A6, d6, rfl⟩ := o6.shape)
              obtain ⟨hP1, hF1⟩ := ir_push hOl (oX.ext hza) (mX.ext hza) (hZR.ext hza) o6 r6 QB6 hqw (fun z e => by cases e)
              have QBz := QB6.set 1 (.slice A6 (N + 1) d6)
              have PBz := (boxR (PBy.ext hza) (oX.ext hza) r6 (by decide)).far (p := ⟨qb, 1, none⟩) hpq (.slice A6 (N + 1) d6)
              have SBz := (boxR (SBy.ext hza) (oX.ext hza) r6 (by decide)).far (p := ⟨qb, 1, none⟩) hsq (.slice A6 (N + 1) d6)
              have hEz := hF1.ext (hEy.trans hza) (fun b hb => by
                rcases hb with hb | rfl
                · exact (oX.lt hb).1
                · exact hqw)
              generalize (y6.setCell ⟨qb, 1, none⟩ (.slice A6 (N + 1) d6)) = Z at *
              have hP2 : OwnIR Z w.heap.size (.slice A6 (q + (j + 1)) d6) (q + (j + 1)) (ip.rows ++ (List.range (j + 1)).map (boxRowZ k)) := by
                rw [← Nat.add_assoc, ← HNN.out, List.range_succ, List.map_append, ← List.append_assoc]
                exact hP1
              have QBw : Box Z qb 25 #[.slice Ao k co, .slice A6 (q + (j + 1)) d6, .int .u8 0] := by rw [← Nat.add_assoc, ← HNN.out]; exact QBz
              clear q1 hza hsz hnw hZR QB6 c6 z6 hF1 o6 r6 s6 oX mX PBy SBy QBy hEy QBz hP1
              go_wp2_with fail
              go_roundw
              case rel => exact ⟨j + 1, A6, d6, by omega, by go_num, hP2, QBw, PBz, SBz, hEz⟩
              case measure => simp [intOf]; omega
            · obtain rfl : j = k := by omega
              obtain ⟨N, hN⟩ : ∃ N, N = q + j := ⟨_, rfl⟩
              rw [← hN] at hO QBr
              clear hN
              have q0 := QBr.c0
              have q1 := QBr.c1
              have q2 := QBr.c2
              have y0 := SBr.c0
              have y1 := SBr.c1
              have y2 := SBr.c2
              have z0 := SBr.frozen 0
              have z1 := SBr.frozen 1
              have z2 := SBr.frozen 2
              have SBe := ((SBr.set 0 (.slice Ao j co)).set 1 (.slice AJ N cJ)).set 2 (.int .u8 0)
              have s0 := SBe.c0
              have s1 := SBe.c1
              have s2 := SBe.c2
              have hxe := ((hEr.set (p := ⟨sb, 0, none⟩) hsw (.slice Ao j co)).set (p := ⟨sb, 1, none⟩) hsw (.slice AJ N cJ)).set (p := ⟨sb, 2, none⟩) hsw (.int .u8 0)
              have hSB : Fr (fun g => g = sb) wr (((wr.setCell ⟨sb, 0, none⟩ (.slice Ao j co)).setCell ⟨sb, 1, none⟩ (.slice AJ N cJ)).setCell ⟨sb, 2, none⟩ (.int .u8 0)) :=
                (((Fr.refl (fun g => g = sb) wr).set (p := ⟨sb, 0, none⟩) rfl (fun z => by rw [SBr.c0]; intro e; cases e) _).set (p := ⟨sb, 1, none⟩) rfl (fun z => by rw [(SBr.set 0 _).c1]; intro e; cases e) _).set (p := ⟨sb, 2, none⟩) rfl (fun z => by rw [((SBr.set 0 _).set 1 _).c2]; intro e; cases e) _
              have hO2 : OwnIR wr w.heap.size (.slice AJ N cJ) N ip.boxed.rows := by
                have e : ip.boxed.rows = ip.rows ++ (List.range j).map (boxRowZ j) := by rw [HN.out]; rfl
                rw [e]; exact hO
              have hOe := hO2.fr hSB (fun b hb => by
                subst hb
                refine ⟨hsw, fun cs e => ?_⟩
                have hQ : wr.heap[b]? = some (.cells #[.slice none 0 0, .slice none 0 0, .int .u8 0] 25 (0, 0)) := SBr
                rw [hQ] at e
                injection e with e
                injection e with _ e
                exact absurd e (by decide)) (fun b hb cs e => by
                subst hb
                have hQ : wr.heap[b]? = some (.cells #[.slice none 0 0, .slice none 0 0, .int .u8 0] 25 (0, 0)) := SBr
                rw [hQ] at e
                injection e with e
                injection e with _ e
                exact absurd e (by decide))
              have hIV : IPV _ (.agg #[.slice Ao j co, .slice AJ N cJ, .int .u8 ((ip.boxed.den : Nat) : Int)]) ip.boxed := OwnIR.ipv hOe (show Row _ (.slice Ao j co) (wV ip.boxed.obj) from ho.ext hxe)
              clear hSB hO2 hOe
              clear SBe
              go_wp2_with fail
              refine bodyPost_ret (v := .tuple #[.agg #[.slice Ao j co, .slice AJ N cJ, .int .u8 0], .bool true]) (by simp [results, Try.results12, go_sem, s0, s1, s2]) rfl ?_
              exact ⟨hxe, .inl ⟨_, HBT.out, rfl, hIV⟩⟩
end Go.Proofs.Ythafabkjidifeaa.Lp
