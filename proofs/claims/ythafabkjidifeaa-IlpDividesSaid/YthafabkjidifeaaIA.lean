/- Plain: branch and bound as a function on problems; what it answers. -/
import Derived.Test.YthafabkjidifeaaLJ
set_option linter.unusedVariables false
set_option linter.unusedSimpArgs false
namespace Go.Proofs.Ythafabkjidifeaa.Lp

/-- the integer fits into 64 bits -/
def fit (z : Int) : Bool := decide (-9223372036854775808 ≤ z) && decide (z ≤ 9223372036854775807)
theorem fit_iff {z : Int} : fit z = true ↔ -9223372036854775808 ≤ z ∧ z ≤ 9223372036854775807 := by
  unfold fit; rw [Bool.and_eq_true, decide_eq_true_eq, decide_eq_true_eq]
/-- the state of a search: the nodes solved, and the best point -/
structure BS where
  solved : Nat
  best : Option (Int × (Nat → Int))
inductive BT where
  | leaf (empty : Bool) (m : Nat) (y : Nat → Rat)
  | node (v : Nat) (f : Int) (low high : BT)
def BT.size : BT → Nat
  | .leaf _ _ _ => 1
  | .node _ _ a b => a.size + b.size + 1
/-- a side of a problem -/
def Prob.side (p : Prob) (v : Nat) (f : Int) (high : Bool) : Prob :=
  { p with m := p.m + 1, len := fun i => if i = p.m then p.n else p.len i, coef := fun i => if i = p.m then (fun j => if j = v then 1 else 0) else p.coef i, rel := fun i => if i = p.m then (if high = true then 3 else 1) else p.rel i, right := fun i => if i = p.m then ((f + (if high = true then 1 else 0) : Int) : Rat) else p.right i }
/-- the first number that is no integer -/
def fracV (x : Nat → Rat) : Nat → Option Nat
  | 0 => none
  | n + 1 => match fracV x n with
    | some v => some v
    | none => if (x n).den = 1 then none else some n
def fitsV (x : Nat → Rat) : Nat → Bool
  | 0 => true
  | n + 1 => fitsV x n && fit (x n).num
def BS.cut (s : BS) (z : Rat) : Bool := match s.best with
  | none => false
  | some (v, _) => decide (z.floor ≤ v)
def BS.tick (s : BS) : BS := { s with solved := s.solved + 1 }
noncomputable def nodeF (L : Nat) : Nat → Prob → BS → Except Int (BT × BS)
  | 0, _, _ => .error 13
  | k + 1, p, s =>
    if L ≤ s.solved then .error 13 else
    match p.sol with
    | .inf y => .ok (.leaf true p.m y, s.tick)
    | .unb => .error 18
    | .opt z x y =>
      if s.cut z = true then .ok (.leaf false p.m y, s.tick)
      else match fracV x p.n with
        | some v =>
          if fit (x v).floor = true then
            match nodeF L k (p.side v (x v).floor false) s.tick with
            | .error e => .error e
            | .ok (lo, s1) =>
              match nodeF L k (p.side v (x v).floor true) s1 with
              | .error e => .error e
              | .ok (hi, s2) => .ok (.node v (x v).floor lo hi, s2)
          else .error 2
        | none => if (fitsV x p.n && fit z.floor) = true then .ok (.leaf false p.m y, ⟨s.solved + 1, some (z.floor, fun j => (x j).num)⟩) else .error 2
/-- the result of a search -/
noncomputable def solveF (L : Nat) (p : Prob) : Except Int (BT × BS) := nodeF L (L + 1) p ⟨0, none⟩

theorem fracV_none {x : Nat → Rat} {n : Nat} (h : fracV x n = none) : ∀ j, j < n → (x j).den = 1 := by
  induction n with
  | zero => intro j hj; omega
  | succ n ih =>
    unfold fracV at h
    cases e : fracV x n with
    | some v => rw [e] at h; cases h
    | none =>
      rw [e] at h
      have h : (if (x n).den = 1 then none else some n) = none := h
      split at h
      · next h1 =>
        intro j hj
        rcases Nat.lt_or_ge j n with hlt | hge
        · exact ih e j hlt
        · obtain rfl : j = n := by omega
          exact h1
      · cases h
theorem fracV_some {x : Nat → Rat} {n v : Nat} (h : fracV x n = some v) : v < n ∧ (x v).den ≠ 1 ∧ ∀ j, j < v → (x j).den = 1 := by
  induction n with
  | zero => cases h
  | succ n ih =>
    unfold fracV at h
    cases e : fracV x n with
    | some u =>
      rw [e] at h
      have h : some u = some v := h
      injection h with h
      subst h
      obtain ⟨a, b, c⟩ := ih e
      exact ⟨by omega, b, c⟩
    | none =>
      rw [e] at h
      have h : (if (x n).den = 1 then none else some n) = some v := h
      split at h
      · cases h
      · next h1 =>
        injection h with h
        subst h
        exact ⟨by omega, h1, fracV_none e⟩
/-- none up to a place, and there it is -/
theorem fracV_at {x : Nat → Rat} {n v : Nat} (hv : v < n) (h : fracV x v = none) (hd : (x v).den ≠ 1) : fracV x n = some v := by
  induction n with
  | zero => omega
  | succ n ih =>
    unfold fracV
    rcases Nat.lt_or_ge v n with hlt | hge
    · rw [ih hlt]
    · obtain rfl : v = n := by omega
      rw [h]
      exact if_neg hd
theorem fracV_succ {x : Nat → Rat} {n : Nat} (h : fracV x n = none) (hd : (x n).den = 1) : fracV x (n + 1) = none := by
  unfold fracV; rw [h]; exact if_pos hd
theorem fitsV_iff {x : Nat → Rat} {n : Nat} : fitsV x n = true ↔ ∀ j, j < n → fit (x j).num = true := by
  induction n with
  | zero => exact ⟨fun _ j hj => absurd hj (by omega), fun _ => rfl⟩
  | succ n ih =>
    show (fitsV x n && fit (x n).num) = true ↔ _
    rw [Bool.and_eq_true, ih]
    refine ⟨fun h j hj => ?_, fun h => ⟨fun j hj => h j (by omega), h n (by omega)⟩⟩
    rcases Nat.lt_or_ge j n with hlt | hge
    · exact h.1 j hlt
    · obtain rfl : j = n := by omega
      exact h.2
theorem int_of_den {q : Rat} (h : q.den = 1) : ((q.num : Int) : Rat) = q := by
  exact Rat.ext rfl h.symm
theorem floor_frac {q : Rat} (h : q.den ≠ 1) : (q.floor : Rat) < q := by
  rcases Rat.le_iff_lt_or_eq.1 (Rat.floor_le q) with h1 | h1
  · exact h1
  · exact absurd (by rw [← h1]; rfl) h

/-! one more row -/
section
variable {p : Prob} {v : Nat} {f : Int} {high : Bool}
theorem Prob.side_vrel (h : p.Vrel) : (p.side v f high).Vrel := by
  intro i hi
  have hi : i < p.m + 1 := hi
  show 1 ≤ (if i = p.m then (if high = true then 3 else 1) else p.rel i) ∧ (if i = p.m then (if high = true then 3 else 1) else p.rel i) ≤ 3
  by_cases e : i = p.m
  · rw [if_pos e]; split <;> exact ⟨by omega, by omega⟩
  · rw [if_neg e]; exact h i (by omega)
theorem Prob.side_dot (hv : v < p.n) (x : Nat → Rat) : dot (p.side v f high).n ((p.side v f high).coef p.m) x = x v := by
  have e : (p.side v f high).coef p.m = fun j => if j = v then 1 else 0 := if_pos rfl
  rw [e]
  show sm p.n (fun j => (if j = v then 1 else 0) * x j) = x v
  rw [sm_only hv (fun j _ hne => by rw [if_neg hne]; exact Rat.zero_mul _), if_pos rfl]
  exact Rat.one_mul _
theorem Prob.side_feas (hv : v < p.n) {x : Nat → Rat} : (p.side v f high).Feas x ↔ p.Feas x ∧ (if high = true then ((f + 1 : Int) : Rat) ≤ x v else x v ≤ (f : Rat)) := by
  have key : Holds ((p.side v f high).rel p.m) (dot (p.side v f high).n ((p.side v f high).coef p.m) x) ((p.side v f high).right p.m) ↔ (if high = true then ((f + 1 : Int) : Rat) ≤ x v else x v ≤ (f : Rat)) := by
    rw [Prob.side_dot hv]
    have e1 : (p.side v f high).rel p.m = if high = true then 3 else 1 := if_pos rfl
    have e2 : (p.side v f high).right p.m = ((f + (if high = true then 1 else 0) : Int) : Rat) := if_pos rfl
    rw [e1, e2]
    unfold Holds
    cases high with
    | true => exact ⟨fun h => h.2.2 rfl, fun h => ⟨fun e => (by cases e), fun e => (by cases e), fun _ => h⟩⟩
    | false =>
      rw [if_neg (by decide), if_neg (by decide), if_neg (by decide), Int.add_zero]
      exact ⟨fun h => h.1 rfl, fun h => ⟨fun _ => h, fun e => (by cases e), fun e => (by cases e)⟩⟩
  have old : ∀ i, i < p.m → (Holds ((p.side v f high).rel i) (dot (p.side v f high).n ((p.side v f high).coef i) x) ((p.side v f high).right i) ↔ Holds (p.rel i) (dot p.n (p.coef i) x) (p.right i)) := fun i hi => by
    have e0 : (p.side v f high).rel i = p.rel i := if_neg (by omega)
    have e1 : (p.side v f high).coef i = p.coef i := if_neg (by omega)
    have e2 : (p.side v f high).right i = p.right i := if_neg (by omega)
    rw [e0, e1, e2]; exact Iff.rfl
  constructor
  · rintro ⟨h1, h2⟩
    exact ⟨⟨h1, fun i hi => (old i hi).1 (h2 i (by show i < p.m + 1; omega))⟩, key.1 (h2 p.m (by show p.m < p.m + 1; omega))⟩
  · rintro ⟨⟨h1, h2⟩, h3⟩
    refine ⟨h1, fun i hi => ?_⟩
    have hi : i < p.m + 1 := hi
    rcases Nat.lt_or_ge i p.m with hlt | hge
    · exact (old i hlt).2 (h2 i hlt)
    · obtain rfl : i = p.m := by omega
      exact key.2 h3
end
/-- an integer point -/
def Prob.FeasI (p : Prob) (x : Nat → Int) : Prop := p.Feas (fun j => (x j : Rat))
def Prob.objI (p : Prob) (x : Nat → Int) : Rat := dot p.n p.obj (fun j => (x j : Rat))
def Prob.IntObj (p : Prob) : Prop := ∀ j, j < p.n → (p.obj j).den = 1
theorem Prob.side_int {p : Prob} {v : Nat} {f : Int} (hv : v < p.n) {x : Nat → Int} (h : p.FeasI x) : (p.side v f false).FeasI x ∨ (p.side v f true).FeasI x := by
  rcases Int.lt_or_le f (x v) with h1 | h1
  · refine .inr ((Prob.side_feas hv).2 ⟨h, ?_⟩)
    rw [if_pos rfl]
    exact Rat.intCast_le_intCast.2 (by omega)
  · refine .inl ((Prob.side_feas hv).2 ⟨h, ?_⟩)
    rw [if_neg (by decide)]
    exact Rat.intCast_le_intCast.2 (by omega)
theorem sm_den {n : Nat} {f : Nat → Rat} (h : ∀ j, j < n → (f j).den = 1) : (sm n f).den = 1 := by
  have : ∃ z : Int, sm n f = (z : Rat) := by
    induction n with
    | zero => exact ⟨0, rfl⟩
    | succ n ih =>
      obtain ⟨z, hz⟩ := ih (fun j hj => h j (by omega))
      refine ⟨z + (f n).num, ?_⟩
      show sm n f + f n = _
      rw [hz, Rat.intCast_add, int_of_den (h n (by omega))]
  obtain ⟨z, hz⟩ := this
  rw [hz]; rfl
theorem mul_den {a b : Rat} (ha : a.den = 1) (hb : b.den = 1) : (a * b).den = 1 := by
  rw [← int_of_den ha, ← int_of_den hb, ← Rat.intCast_mul]; rfl
theorem Prob.objI_int {p : Prob} (h : p.IntObj) (x : Nat → Int) : ((p.objI x).floor : Rat) = p.objI x := by
  have : (p.objI x).den = 1 := sm_den fun j hj => mul_den (h j hj) rfl
  have e := int_of_den this
  rw [← e, Rat.floor_intCast]

/-! what the tree shows -/
/-- the tree proves that no integer point of p has a greater objective than V; without V: that there is no point -/
def BT.Ok : BT → Prob → Option Int → Prop
  | .leaf true m y, p, _ => m = p.m ∧ p.Refutes y
  | .leaf false m y, p, V => m = p.m ∧ ∃ z v, p.Proves y z ∧ V = some v ∧ z.floor ≤ v
  | .node v f a b, p, V => v < p.n ∧ fit f = true ∧ a.Ok (p.side v f false) V ∧ b.Ok (p.side v f true) V
theorem BT.Ok.up {t : BT} {p : Prob} {V V' : Option Int} (h : t.Ok p V) (hV : ∀ v, V = some v → ∃ v', V' = some v' ∧ v ≤ v') : t.Ok p V' := by
  induction t generalizing p with
  | leaf e m y =>
    cases e with
    | true => exact h
    | false =>
      obtain ⟨h0, z, v, h1, h2, h3⟩ := h
      obtain ⟨v', h4, h5⟩ := hV v h2
      exact ⟨h0, z, v', h1, h4, Int.le_trans h3 h5⟩
  | node v f a b iha ihb => exact ⟨h.1, h.2.1, iha h.2.2.1, ihb h.2.2.2⟩
theorem BT.Ok.bound {t : BT} {p : Prob} {V : Option Int} (h : t.Ok p V) (hv : p.Vrel) (ho : p.IntObj) {x : Nat → Int} (hx : p.FeasI x) : ∃ v : Int, V = some v ∧ p.objI x ≤ (v : Rat) := by
  induction t generalizing p with
  | leaf e m y =>
    cases e with
    | true => exact (Prob.Refutes.none hv h.2 hx).elim
    | false =>
      obtain ⟨-, z, v, h1, h2, h3⟩ := h
      refine ⟨v, h2, ?_⟩
      have h4 : p.objI x ≤ z := h1.bound hv hx
      have h5 := Rat.floor_monotone h4
      rw [← Prob.objI_int ho x]
      exact Rat.intCast_le_intCast.2 (Int.le_trans h5 h3)
  | node u f a b iha ihb =>
    rcases Prob.side_int (f := f) h.1 hx with h1 | h1
    · exact iha (p := p.side u f false) h.2.2.1 (Prob.side_vrel hv) ho h1
    · exact ihb (p := p.side u f true) h.2.2.2 (Prob.side_vrel hv) ho h1

/-- the best of a state lies in p, and is whole -/
def BS.Fits (s : BS) (p : Prob) : Prop := ∀ v x, s.best = some (v, x) → p.FeasI x ∧ p.objI x = (v : Rat) ∧ fit v = true ∧ ∀ j, j < p.n → fit (x j) = true
def BS.val (s : BS) : Option Int := s.best.map Prod.fst
theorem nodeF_sound {L k : Nat} {p : Prob} {s s' : BS} {t : BT} (hv : p.Vrel) (ho : p.IntObj) (h : nodeF L k p s = .ok (t, s')) :
    t.Ok p s'.val ∧ (∀ v, s.val = some v → ∃ v', s'.val = some v' ∧ v ≤ v') ∧ (s'.best = s.best ∨ s'.Fits p) ∧ s'.solved = s.solved + t.size ∧ s'.solved ≤ L := by
  induction k generalizing p s s' t with
  | zero => cases h
  | succ k ih =>
    unfold nodeF at h
    split at h
    · cases h
    · next hL =>
      have hans := Prob.sol_ans hv
      cases es : p.sol with
      | inf y =>
        rw [es] at h hans
        simp only [Except.ok.injEq, Prod.mk.injEq] at h
        obtain ⟨rfl, rfl⟩ := h
        exact ⟨⟨rfl, hans⟩, fun v hv => ⟨v, hv, Int.le_refl _⟩, .inl rfl, rfl, by show s.solved + 1 ≤ L; omega⟩
      | unb => rw [es] at h; cases h
      | opt z x y =>
        rw [es] at h hans
        obtain ⟨a1, a2, a3⟩ := hans
        simp only at h
        split at h
        · next hc =>
          simp only [Except.ok.injEq, Prod.mk.injEq] at h
          obtain ⟨rfl, rfl⟩ := h
          refine ⟨⟨rfl, z, ?_⟩, fun v hv => ⟨v, hv, Int.le_refl _⟩, .inl rfl, rfl, by show s.solved + 1 ≤ L; omega⟩
          unfold BS.cut at hc
          cases eb : s.best with
          | none => rw [eb] at hc; cases hc
          | some q =>
            obtain ⟨v, xx⟩ := q
            rw [eb] at hc
            exact ⟨v, a3, by show s.best.map Prod.fst = _; rw [eb]; rfl, by simpa using hc⟩
        · next hc =>
          cases ef : fracV x p.n with
          | some v =>
            rw [ef] at h
            simp only at h
            split at h
            · next hfit =>
              obtain ⟨hvn, hvd, -⟩ := fracV_some ef
              cases e1 : nodeF L k (p.side v (x v).floor false) s.tick with
              | error e => rw [e1] at h; cases h
              | ok r1 =>
                obtain ⟨lo, s1⟩ := r1
                rw [e1] at h
                simp only at h
                cases e2 : nodeF L k (p.side v (x v).floor true) s1 with
                | error e => rw [e2] at h; cases h
                | ok r2 =>
                  obtain ⟨hi, s2⟩ := r2
                  rw [e2] at h
                  simp only [Except.ok.injEq, Prod.mk.injEq] at h
                  obtain ⟨rfl, rfl⟩ := h
                  obtain ⟨b1, b2, b3, b4, b5⟩ := ih (Prob.side_vrel hv) ho e1
                  obtain ⟨c1, c2, c3, c4, c5⟩ := ih (Prob.side_vrel hv) ho e2
                  have lift : ∀ {hg : Bool} {q : BS}, q.Fits (p.side v (x v).floor hg) → q.Fits p := fun {hg q} hq u w hu => by
                    obtain ⟨g1, g2⟩ := hq u w hu
                    exact ⟨((Prob.side_feas hvn).1 g1).1, g2⟩
                  refine ⟨⟨hvn, hfit, b1.up c2, c1⟩, fun u hu => ?_, ?_, ?_, c5⟩
                  · obtain ⟨u1, h1, h2⟩ := b2 u hu
                    obtain ⟨u2, h3, h4⟩ := c2 u1 h1
                    exact ⟨u2, h3, Int.le_trans h2 h4⟩
                  · rcases c3 with c3 | c3
                    · rcases b3 with b3 | b3
                      · exact .inl (c3.trans b3)
                      · exact .inr (fun u w hu => lift b3 u w (by rw [← c3]; exact hu))
                    · exact .inr (lift c3)
                  · rw [c4, b4]
                    show s.solved + 1 + lo.size + hi.size = s.solved + (lo.size + hi.size + 1)
                    omega
            · cases h
          | none =>
            rw [ef] at h
            simp only at h
            split at h
            · next hfit =>
              simp only [Except.ok.injEq, Prod.mk.injEq] at h
              obtain ⟨rfl, rfl⟩ := h
              rw [Bool.and_eq_true, fitsV_iff] at hfit
              have hden := fracV_none ef
              have hxi : ∀ j, j < p.n → (((x j).num : Int) : Rat) = x j := fun j hj => int_of_den (hden j hj)
              have hdot : ∀ a : Nat → Rat, dot p.n a (fun j => (((x j).num : Int) : Rat)) = dot p.n a x := fun a => sm_congr fun j hj => by show a j * (((x j).num : Int) : Rat) = _; rw [hxi j hj]
              have hz : p.objI (fun j => (x j).num) = z := (hdot _).trans a2
              have hzi := Prob.objI_int ho (fun j => (x j).num)
              rw [hz] at hzi
              refine ⟨⟨rfl, z, z.floor, a3, rfl, Int.le_refl _⟩, fun v hv' => ⟨z.floor, rfl, ?_⟩, .inr ?_, rfl, by show s.solved + 1 ≤ L; omega⟩
              · unfold BS.cut at hc
                unfold BS.val at hv'
                cases eb : s.best with
                | none => rw [eb] at hv'; cases hv'
                | some q =>
                  obtain ⟨v', xx⟩ := q
                  rw [eb] at hc hv'
                  have hv'' : some v' = some v := hv'
                  injection hv'' with hv''
                  subst hv''
                  have : ¬ z.floor ≤ v' := by simpa using hc
                  omega
              · intro v w hu
                have hu : some (z.floor, fun j => (x j).num) = some (v, w) := hu
                injection hu with hu
                injection hu with e1 e2
                subst e1 e2
                refine ⟨⟨fun j hj => ?_, fun i hi => ?_⟩, hz.trans hzi.symm, hfit.2, fun j hj => hfit.1 j hj⟩
                · show (0 : Rat) ≤ (((x j).num : Int) : Rat)
                  rw [hxi j hj]; exact a1.1 j hj
                · rw [hdot]; exact a1.2 i hi
            · cases h
theorem BT.size_pos (t : BT) : 0 < t.size := by cases t <;> (unfold BT.size; omega)
theorem nodeF_size {L k : Nat} {p : Prob} {s s' : BS} {t : BT} (h : nodeF L k p s = .ok (t, s')) : s'.solved = s.solved + t.size := by
  induction k generalizing p s s' t with
  | zero => cases h
  | succ k ih =>
    unfold nodeF at h
    split at h
    · cases h
    · cases es : p.sol with
      | inf y =>
        rw [es] at h
        simp only [Except.ok.injEq, Prod.mk.injEq] at h
        obtain ⟨rfl, rfl⟩ := h
        rfl
      | unb => rw [es] at h; cases h
      | opt z x y =>
        rw [es] at h
        simp only at h
        split at h
        · simp only [Except.ok.injEq, Prod.mk.injEq] at h
          obtain ⟨rfl, rfl⟩ := h
          rfl
        · cases ef : fracV x p.n with
          | some v =>
            rw [ef] at h
            simp only at h
            split at h
            · cases e1 : nodeF L k (p.side v (x v).floor false) s.tick with
              | error e => rw [e1] at h; cases h
              | ok r1 =>
                obtain ⟨lo, s1⟩ := r1
                rw [e1] at h
                simp only at h
                cases e2 : nodeF L k (p.side v (x v).floor true) s1 with
                | error e => rw [e2] at h; cases h
                | ok r2 =>
                  obtain ⟨hi, s2⟩ := r2
                  rw [e2] at h
                  simp only [Except.ok.injEq, Prod.mk.injEq] at h
                  obtain ⟨rfl, rfl⟩ := h
                  rw [ih e2, ih e1]
                  show s.solved + 1 + lo.size + hi.size = s.solved + (lo.size + hi.size + 1)
                  omega
            · cases h
          | none =>
            rw [ef] at h
            simp only at h
            split at h
            · simp only [Except.ok.injEq, Prod.mk.injEq] at h
              obtain ⟨rfl, rfl⟩ := h
              rfl
            · cases h
/-- the limit counts the nodes: enough of them change nothing, too few end the search -/
theorem nodeF_limit {L L' k k' : Nat} {p : Prob} {s s' : BS} {t : BT} (h : nodeF L k p s = .ok (t, s')) (hk : L' < s.solved + k') : (s'.solved ≤ L' → nodeF L' k' p s = .ok (t, s')) ∧ (L' < s'.solved → nodeF L' k' p s = .error 13) := by
  induction k generalizing k' p s s' t with
  | zero => cases h
  | succ k ih =>
    have hsz := nodeF_size h
    have hsp := t.size_pos
    unfold nodeF at h
    split at h
    · cases h
    · next hL =>
      cases k' with
      | zero => exact ⟨fun h => by omega, fun _ => rfl⟩
      | succ k' =>
        rcases Nat.lt_or_ge s.solved L' with hlt | hge
        · have hL' : ¬ L' ≤ s.solved := by omega
          unfold nodeF
          rw [if_neg hL']
          cases es : p.sol with
          | inf y =>
            rw [es] at h
            simp only [Except.ok.injEq, Prod.mk.injEq] at h
            obtain ⟨rfl, rfl⟩ := h
            exact ⟨fun _ => rfl, fun h => by have h : L' < s.solved + 1 := h; omega⟩
          | unb => rw [es] at h; cases h
          | opt z x y =>
            rw [es] at h
            simp only at h ⊢
            split at h
            · next hc =>
              simp only [Except.ok.injEq, Prod.mk.injEq] at h
              obtain ⟨rfl, rfl⟩ := h
              rw [if_pos hc]
              exact ⟨fun _ => rfl, fun h => by have h : L' < s.solved + 1 := h; omega⟩
            · next hc =>
              rw [if_neg hc]
              cases ef : fracV x p.n with
              | some v =>
                rw [ef] at h
                simp only at h ⊢
                split at h
                · next hfit =>
                  rw [if_pos hfit]
                  cases e1 : nodeF L k (p.side v (x v).floor false) s.tick with
                  | error e => rw [e1] at h; cases h
                  | ok r1 =>
                    obtain ⟨lo, s1⟩ := r1
                    rw [e1] at h
                    simp only at h
                    cases e2 : nodeF L k (p.side v (x v).floor true) s1 with
                    | error e => rw [e2] at h; cases h
                    | ok r2 =>
                      obtain ⟨hi, s2⟩ := r2
                      rw [e2] at h
                      simp only [Except.ok.injEq, Prod.mk.injEq] at h
                      obtain ⟨rfl, rfl⟩ := h
                      have z1 := nodeF_size e1
                      have z2 := nodeF_size e2
                      have q1 := lo.size_pos
                      have q2 := hi.size_pos
                      have z0 : s.tick.solved = s.solved + 1 := rfl
                      obtain ⟨a1, a2⟩ := ih (k' := k') e1 (by omega)
                      obtain ⟨b1, b2⟩ := ih (k' := k') e2 (by omega)
                      rcases Nat.lt_or_ge L' s1.solved with h1 | h1
                      · rw [a2 h1]
                        exact ⟨fun h => by omega, fun _ => rfl⟩
                      · rw [a1 h1]
                        refine ⟨fun h => ?_, fun h => ?_⟩
                        · simp only; rw [b1 h]
                        · simp only; rw [b2 h]
                · cases h
              | none =>
                rw [ef] at h
                simp only at h ⊢
                split at h
                · next hfit =>
                  simp only [Except.ok.injEq, Prod.mk.injEq] at h
                  obtain ⟨rfl, rfl⟩ := h
                  rw [if_pos hfit]
                  exact ⟨fun _ => rfl, fun h => by have h : L' < s.solved + 1 := h; omega⟩
                · cases h
        · unfold nodeF
          rw [if_pos hge]
          exact ⟨fun h => by omega, fun _ => rfl⟩
theorem solveF_limit {L L' : Nat} {p : Prob} {s : BS} {t : BT} (h : solveF L p = .ok (t, s)) : s.solved = t.size ∧ (t.size ≤ L' → solveF L' p = .ok (t, s)) ∧ (L' < t.size → solveF L' p = .error 13) := by
  have h1 := nodeF_size h
  have h2 : s.solved = t.size := by rw [h1]; exact Nat.zero_add _
  obtain ⟨a, b⟩ := nodeF_limit (L' := L') (k' := L' + 1) h (by show L' < 0 + (L' + 1); omega)
  rw [h2] at a b
  exact ⟨h2, a, b⟩

/-! a box of integer points -/
/-- the number of integer points of a box -/
def vol (lo hi : Nat → Int) : Nat → Nat
  | 0 => 1
  | n + 1 => vol lo hi n * (hi n - lo n + 1).toNat
theorem vol_congr {lo hi lo' hi' : Nat → Int} {n : Nat} (h : ∀ j, j < n → lo j = lo' j ∧ hi j = hi' j) : vol lo hi n = vol lo' hi' n := by
  induction n with
  | zero => rfl
  | succ n ih =>
    show vol lo hi n * _ = vol lo' hi' n * _
    rw [ih (fun j hj => h j (by omega)), (h n (by omega)).1, (h n (by omega)).2]
theorem vol_pos {lo hi : Nat → Int} {n : Nat} (h : ∀ j, j < n → lo j ≤ hi j) : 0 < vol lo hi n := by
  induction n with
  | zero => exact Nat.one_pos
  | succ n ih =>
    have h1 := ih (fun j hj => h j (by omega))
    have h2 := h n (by omega)
    exact Nat.mul_pos h1 (by omega)
def upd (f : Nat → Int) (v : Nat) (z : Int) (j : Nat) : Int := if j = v then z else f j
theorem vol_split {lo hi : Nat → Int} {n v : Nat} {f : Int} (hv : v < n) (h1 : lo v ≤ f) (h2 : f < hi v) : vol lo hi n = vol lo (upd hi v f) n + vol (upd lo v (f + 1)) hi n := by
  induction n with
  | zero => omega
  | succ n ih =>
    show vol lo hi n * _ = vol lo (upd hi v f) n * (upd hi v f n - lo n + 1).toNat + vol (upd lo v (f + 1)) hi n * (hi n - upd lo v (f + 1) n + 1).toNat
    rcases Nat.lt_or_ge v n with hlt | hge
    · have e1 : upd hi v f n = hi n := if_neg (by omega)
      have e2 : upd lo v (f + 1) n = lo n := if_neg (by omega)
      rw [e1, e2, ih hlt, Nat.add_mul]
    · obtain rfl : v = n := by omega
      have e1 : upd hi v f v = f := if_pos rfl
      have e2 : upd lo v (f + 1) v = f + 1 := if_pos rfl
      have e3 : vol lo (upd hi v f) v = vol lo hi v := vol_congr fun j hj => ⟨rfl, if_neg (by omega)⟩
      have e4 : vol (upd lo v (f + 1)) hi v = vol lo hi v := vol_congr fun j hj => ⟨if_neg (by omega), rfl⟩
      rw [e1, e2, e3, e4, ← Nat.mul_add]
      congr 1
      omega
/-- all points of p lie in the box -/
def Prob.Box (p : Prob) (lo hi : Nat → Int) : Prop := ∀ x, p.Feas x → ∀ j, j < p.n → (lo j : Rat) ≤ x j ∧ x j ≤ (hi j : Rat)
/-- the objective is bounded by what fits, and the box too -/
def Prob.Small (p : Prob) (M : Int) : Prop := ∀ x, p.Feas x → -(M : Rat) ≤ dot p.n p.obj x ∧ dot p.n p.obj x ≤ (M : Rat)
theorem floor_range {q : Rat} {a b : Int} (h1 : (a : Rat) ≤ q) (h2 : q ≤ (b : Rat)) : a ≤ q.floor ∧ q.floor ≤ b := by
  refine ⟨Rat.le_floor_iff.2 h1, ?_⟩
  have := Rat.floor_monotone h2
  rwa [Rat.floor_intCast] at this
theorem nodeF_box {L k : Nat} {p : Prob} {s : BS} {lo hi : Nat → Int} {M : Int} (hv : p.Vrel) (hb : p.Box lo hi) (hl : ∀ j, j < p.n → 0 ≤ lo j ∧ lo j ≤ hi j ∧ hi j ≤ M) (hs : p.Small M) (hM : M ≤ 9223372036854775807) (hM0 : 0 ≤ M)
    (hL : s.solved + (2 * vol lo hi p.n - 1) ≤ L) (hk : L < s.solved + k) : ∃ t s', nodeF L k p s = .ok (t, s') ∧ t.size ≤ 2 * vol lo hi p.n - 1 := by
  induction k generalizing p s lo hi with
  | zero => omega
  | succ k ih =>
    have hvp := vol_pos (n := p.n) (fun j hj => (hl j hj).2.1)
    have hans := Prob.sol_ans hv
    unfold nodeF
    rw [if_neg (by omega)]
    cases es : p.sol with
    | inf y => exact ⟨_, _, rfl, by show 1 ≤ _; omega⟩
    | unb =>
      rw [es] at hans
      obtain ⟨x, h1, h2⟩ := hans ((M + 1 : Int) : Rat)
      have h3 := (hs x h1).2
      have : ((M + 1 : Int) : Rat) ≤ (M : Rat) := Rat.le_trans h2 h3
      have := Rat.intCast_le_intCast.1 this
      omega
    | opt z x y =>
      rw [es] at hans
      obtain ⟨a1, a2, a3⟩ := hans
      simp only
      split
      · exact ⟨_, _, rfl, by show 1 ≤ _; omega⟩
      · cases ef : fracV x p.n with
        | some v =>
          simp only
          obtain ⟨hvn, hvd, -⟩ := fracV_some ef
          obtain ⟨b1, b2⟩ := hb x a1 v hvn
          obtain ⟨l1, l2, l3⟩ := hl v hvn
          obtain ⟨f1, f2⟩ := floor_range b1 b2
          have f3 : (x v).floor < hi v := by
            have h1 : ((x v).floor : Rat) < (hi v : Rat) := by have := floor_frac hvd; grind
            exact Rat.intCast_lt_intCast.1 h1
          rw [if_pos (fit_iff.2 ⟨by omega, by omega⟩)]
          have hspl := vol_split (lo := lo) (hi := hi) hvn f1 f3
          have hlo : ∀ j, j < p.n → 0 ≤ lo j ∧ lo j ≤ upd hi v (x v).floor j ∧ upd hi v (x v).floor j ≤ M := fun j hj => by
            unfold upd
            by_cases e : j = v
            · subst e; rw [if_pos rfl]; exact ⟨l1, f1, by omega⟩
            · rw [if_neg e]; exact hl j hj
          have hhi : ∀ j, j < p.n → 0 ≤ upd lo v ((x v).floor + 1) j ∧ upd lo v ((x v).floor + 1) j ≤ hi j ∧ hi j ≤ M := fun j hj => by
            unfold upd
            by_cases e : j = v
            · subst e; rw [if_pos rfl]; exact ⟨by omega, by omega, l3⟩
            · rw [if_neg e]; exact hl j hj
          have hbl : (p.side v (x v).floor false).Box lo (upd hi v (x v).floor) := fun u hu j hj => by
            obtain ⟨g1, g2⟩ := (Prob.side_feas hvn).1 hu
            rw [if_neg (by decide)] at g2
            obtain ⟨g3, g4⟩ := hb u g1 j hj
            refine ⟨g3, ?_⟩
            unfold upd
            by_cases e : j = v
            · subst e; rw [if_pos rfl]; exact g2
            · rw [if_neg e]; exact g4
          have hbh : (p.side v (x v).floor true).Box (upd lo v ((x v).floor + 1)) hi := fun u hu j hj => by
            obtain ⟨g1, g2⟩ := (Prob.side_feas hvn).1 hu
            rw [if_pos rfl] at g2
            obtain ⟨g3, g4⟩ := hb u g1 j hj
            refine ⟨?_, g4⟩
            unfold upd
            by_cases e : j = v
            · subst e; rw [if_pos rfl]; exact g2
            · rw [if_neg e]; exact g3
          have hsm : ∀ hg, (p.side v (x v).floor hg).Small M := fun hg u hu => hs u ((Prob.side_feas hvn).1 hu).1
          have p1 := vol_pos (n := p.n) (fun j hj => (hlo j hj).2.1)
          have p2 := vol_pos (n := p.n) (fun j hj => (hhi j hj).2.1)
          obtain ⟨t1, s1, e1, z1⟩ := ih (p := p.side v (x v).floor false) (s := s.tick) (Prob.side_vrel hv) hbl hlo (hsm _) (by show s.solved + 1 + (2 * vol lo (upd hi v (x v).floor) p.n - 1) ≤ L; omega) (by show L < s.solved + 1 + k; omega)
          have y1 := nodeF_size e1
          have y2 : s1.solved = s.solved + 1 + t1.size := y1
          have z1' : t1.size ≤ 2 * vol lo (upd hi v (x v).floor) p.n - 1 := z1
          have q1 := t1.size_pos
          obtain ⟨t2, s2, e2, z2⟩ := ih (p := p.side v (x v).floor true) (s := s1) (Prob.side_vrel hv) hbh hhi (hsm _) (by show s1.solved + (2 * vol (upd lo v ((x v).floor + 1)) hi p.n - 1) ≤ L; omega) (by omega)
          have z2' : t2.size ≤ 2 * vol (upd lo v ((x v).floor + 1)) hi p.n - 1 := z2
          rw [e1]
          simp only
          rw [e2]
          exact ⟨_, _, rfl, by show t1.size + t2.size + 1 ≤ _; omega⟩
        | none =>
          simp only
          have hden := fracV_none ef
          obtain ⟨m1, m2⟩ := hs x a1
          rw [a2] at m1 m2
          have m1 : ((-M : Int) : Rat) ≤ z := by rw [Rat.intCast_neg]; exact m1
          obtain ⟨m3, m4⟩ := floor_range m1 m2
          rw [if_pos (by
            rw [Bool.and_eq_true, fitsV_iff]
            refine ⟨fun j hj => ?_, fit_iff.2 ⟨by omega, by omega⟩⟩
            obtain ⟨g1, g2⟩ := hb x a1 j hj
            rw [← int_of_den (hden j hj)] at g1 g2
            have g1 := Rat.intCast_le_intCast.1 g1
            have g2 := Rat.intCast_le_intCast.1 g2
            obtain ⟨l1, l2, l3⟩ := hl j hj
            exact fit_iff.2 ⟨by omega, by omega⟩)]
          exact ⟨_, _, rfl, by show 1 ≤ _; omega⟩

/-! what a search answers -/
theorem solveF_best {L : Nat} {p : Prob} {s : BS} {t : BT} (hv : p.Vrel) (ho : p.IntObj) (h : solveF L p = .ok (t, s)) : t.Ok p s.val ∧
    (∀ v x, s.best = some (v, x) → p.FeasI x ∧ p.objI x = (v : Rat) ∧ fit v = true ∧ (∀ j, j < p.n → fit (x j) = true) ∧ ∀ u, p.FeasI u → p.objI u ≤ (v : Rat)) ∧ (s.best = none → ∀ u, ¬ p.FeasI u) := by
  obtain ⟨h1, -, h2, -, -⟩ := nodeF_sound hv ho h
  refine ⟨h1, fun v x hb => ?_, fun hb u hu => ?_⟩
  · rcases h2 with h2 | h2
    · rw [hb] at h2; cases h2
    · obtain ⟨a, b, c, d⟩ := h2 v x hb
      refine ⟨a, b, c, d, fun u hu => ?_⟩
      obtain ⟨w, e1, e2⟩ := h1.bound hv ho hu
      unfold BS.val at e1
      rw [hb] at e1
      have e1 : some v = some w := e1
      injection e1 with e1
      rw [e1]; exact e2
  · obtain ⟨w, e1, e2⟩ := h1.bound hv ho hu
    unfold BS.val at e1
    rw [hb] at e1
    cases e1
end Go.Proofs.Ythafabkjidifeaa.Lp
