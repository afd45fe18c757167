/- Plain: what a search answers, by the linear program's answer. -/
import Derived.Test.YthafabkjidifeaaIAP
set_option linter.unusedVariables false
set_option linter.unusedSimpArgs false
namespace Go.Proofs.Ythafabkjidifeaa.Lp
open Go.RowKit Go.Proofs.Ythafabkjidifeaa.Big Go.Proofs.Ythafabkjidifeaa.Rt

theorem nodeF_err {L k : Nat} {p : Prob} {s : BS} {c : Int} (h : nodeF L k p s = .error c) : c = 13 ∨ c = 18 ∨ c = 2 := by
  induction k generalizing p s with
  | zero =>
    have h : (Except.error 13 : Except Int (BT × BS)) = .error c := h
    injection h with h
    exact .inl h.symm
  | succ k ih =>
    by_cases hL : L ≤ s.solved
    · rw [nodeF_full hL] at h
      injection h with h
      exact .inl h.symm
    · cases es : p.sol with
      | inf y => rw [nodeF_inf hL es] at h; cases h
      | unb =>
        rw [nodeF_unb hL es] at h
        injection h with h
        exact .inr (.inl h.symm)
      | opt z x y =>
        cases hc : s.cut z with
        | true => rw [nodeF_cut hL es hc] at h; cases h
        | false =>
          cases hf : fracV x p.n with
          | none =>
            cases hb : (fitsV x p.n && fit z.floor) with
            | false =>
              rw [nodeF_unfit hL es hc hf hb] at h
              injection h with h
              exact .inr (.inr h.symm)
            | true =>
              rw [Bool.and_eq_true] at hb
              rw [nodeF_best hL es hc hf hb.1 hb.2] at h
              cases h
          | some v =>
            cases hb : fit (x v).floor with
            | false =>
              rw [nodeF_big hL es hc hf hb] at h
              injection h with h
              exact .inr (.inr h.symm)
            | true =>
              cases h1 : nodeF L k (p.side v (x v).floor false) s.tick with
              | error c1 =>
                rw [nodeF_low hL es hc hf hb h1] at h
                injection h with h
                subst h
                exact ih h1
              | ok q1 =>
                obtain ⟨lo, s1⟩ := q1
                cases h2 : nodeF L k (p.side v (x v).floor true) s1 with
                | error c2 =>
                  rw [nodeF_high hL es hc hf hb h1 h2] at h
                  injection h with h
                  subst h
                  exact ih h2
                | ok q2 =>
                  obtain ⟨hi, s2⟩ := q2
                  rw [nodeF_both hL es hc hf hb h1 h2] at h
                  cases h
theorem solveR_eq {L : Nat} {p : Prob} (hv : validB p = true) (hi : intB p = true) : solveR L p = resR (solveF L p) := by unfold solveR; rw [if_pos ⟨hv, hi⟩]
theorem solveR_inf {L : Nat} {p : Prob} {y : Nat → Rat} (hL : 0 < L) (hv : validB p = true) (hi : intB p = true) (h : p.sol = .inf y) : solveR L p = .fail 17 := by
  rw [solveR_eq hv hi]
  have : solveF L p = .ok (.leaf true p.m y, BS.tick ⟨0, none⟩) := nodeF_inf (by show ¬ L ≤ 0; omega) h
  rw [this]
  exact resR_none rfl
theorem solveR_unb {L : Nat} {p : Prob} (hL : 0 < L) (hv : validB p = true) (hi : intB p = true) (h : p.sol = .unb) : solveR L p = .fail 18 := by
  rw [solveR_eq hv hi]
  have : solveF L p = .error 18 := nodeF_unb (by show ¬ L ≤ 0; omega) h
  rw [this]
  rfl
theorem solveR_fail {L : Nat} {p : Prob} {c : Int} (h : solveR L p = .fail c) : c = 3 ∨ c = 13 ∨ c = 18 ∨ c = 2 ∨ c = 17 := by
  unfold solveR at h
  split at h
  · cases hr : solveF L p with
    | error e =>
      rw [hr] at h
      have h : SRes.fail e = .fail c := h
      injection h with h
      subst h
      rcases nodeF_err hr with h | h | h <;> simp [h]
    | ok q =>
      obtain ⟨t, s⟩ := q
      rw [hr] at h
      cases hb : s.best with
      | none =>
        rw [resR_none hb] at h
        injection h with h
        simp [← h]
      | some q =>
        obtain ⟨v, x⟩ := q
        rw [resR_some hb] at h
        cases h
  · injection h with h
    exact .inl h.symm
/-- a search that finds a point -/
structure Found (L : Nat) (p : Prob) (v : Int) (x : Nat → Int) (t : BT) : Prop where
  feas : p.FeasI x
  obj : p.objI x = (v : Rat)
  fitv : fit v = true
  fitx : ∀ j, j < p.n → fit (x j) = true
  best : ∀ u, p.FeasI u → p.objI u ≤ (v : Rat)
  tree : t.Ok p (some v)
  eq : ∃ s, solveF L p = .ok (t, s) ∧ s.best = some (v, x)
  sol : ∃ z a y, p.sol = .opt z a y ∧ (v : Rat) ≤ z
theorem solveR_done {L : Nat} {p : Prob} {v : Int} {x : Nat → Int} {t : BT} (hL : 0 < L) (h : solveR L p = .done v x t) : Found L p v x t := by
  have hvi : validB p = true ∧ intB p = true := by
    unfold solveR at h
    split at h
    · next hc => exact hc
    · cases h
  have hv := (validB_iff.1 hvi.1).vrel
  have ho := intObj_of hvi.2
  have h0 := h
  rw [solveR_eq hvi.1 hvi.2] at h
  cases hr : solveF L p with
  | error e => rw [hr] at h; cases h
  | ok q =>
    obtain ⟨t', s⟩ := q
    rw [hr] at h
    cases hb : s.best with
    | none => rw [resR_none hb] at h; cases h
    | some q =>
      obtain ⟨v', x'⟩ := q
      rw [resR_some hb] at h
      injection h with e1 e2 e3
      subst e1 e2 e3
      obtain ⟨g1, g2, g3⟩ := solveF_best hv ho hr
      obtain ⟨a1, a2, a3, a4, a5⟩ := g2 _ _ hb
      refine ⟨a1, a2, a3, a4, a5, ?_, ⟨s, hr, hb⟩, ?_⟩
      · unfold BS.val at g1
        rw [hb] at g1
        exact g1
      · cases es : p.sol with
        | inf y => rw [solveR_inf hL hvi.1 hvi.2 es] at h0; cases h0
        | unb => rw [solveR_unb hL hvi.1 hvi.2 es] at h0; cases h0
        | opt z a y =>
          refine ⟨z, a, y, rfl, ?_⟩
          have hI := Prob.is hv
          rw [es] at hI
          rcases hI with ⟨-, -, h⟩ | ⟨h, -⟩ | ⟨h, -⟩
          · exact h _ ⟨_, a1, a2⟩
          · cases h
          · cases h
theorem den_int (z : Int) : (z : Rat).den = 1 := rfl
theorem IP.int {ip : IP} (hd : ip.den = 0) : intB ip.pl.toP = true := by
  have hq : ∀ (l : List Int) j, ((l.map (qn · ip.den)).getD j 0).den = 1 := fun l j => by
    rw [hd]
    rw [List.getD_eq_getElem?_getD, List.getElem?_map]
    cases l[j]? with
    | none => rfl
    | some a => show (qn a 0).den = 1; rw [qn_int]; rfl
  unfold intB
  rw [Bool.and_eq_true]
  refine ⟨intL_iff.2 fun j hj => hq _ _, intR_iff.2 fun i hi => ?_⟩
  obtain ⟨r, h1, h2⟩ := IP.row_some hi
  have e1 : ip.pl.toP.right i = qn r.right ip.den := by show (ip.pl.rows.getD i RL.zero).right = _; rw [h2]; rfl
  refine ⟨by rw [e1, hd, qn_int]; rfl, fun j hj => ?_⟩
  show ((ip.pl.rows.getD i RL.zero).coef.getD j 0).den = 1
  rw [h2]
  exact hq _ _
end Go.Proofs.Ythafabkjidifeaa.Lp
