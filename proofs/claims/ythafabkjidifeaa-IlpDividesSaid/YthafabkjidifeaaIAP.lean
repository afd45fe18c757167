/- Plain: the examples of the chapter. -/
import Derived.Test.YthafabkjidifeaaIV
set_option linter.unusedVariables false
set_option linter.unusedSimpArgs false
namespace Go.Proofs.Ythafabkjidifeaa.Lp
open Go.RowKit Go.Proofs.Ythafabkjidifeaa.Big Go.Proofs.Ythafabkjidifeaa.Rt

def ipA : IP := ⟨[1, 1], [⟨[2, 2], 1, 3⟩], 0⟩
def ipB : IP := ⟨[1], [⟨[2], 2, 1⟩], 0⟩
theorem ipA_ok : ipA.ok := by
  refine ⟨fun z hz => ?_, by decide, by decide, by decide, fun r hr => ?_⟩
  · simp [ipA] at hz; subst hz; exact ⟨by decide, by decide⟩
  · simp [ipA] at hr
    subst hr
    exact ⟨fun z hz => by simp at hz; subst hz; exact ⟨by decide, by decide⟩, ⟨by decide, by decide⟩, by decide, by decide⟩
theorem ipB_ok : ipB.ok := by
  refine ⟨fun z hz => ?_, by decide, by decide, by decide, fun r hr => ?_⟩
  · simp [ipB] at hz; subst hz; exact ⟨by decide, by decide⟩
  · simp [ipB] at hr
    subst hr
    exact ⟨fun z hz => by simp at hz; subst hz; exact ⟨by decide, by decide⟩, ⟨by decide, by decide⟩, by decide, by decide⟩
theorem ipA_valid : validB ipA.pl.toP = true := by decide +kernel
theorem ipB_valid : validB ipB.pl.toP = true := by decide +kernel
theorem ipA_int : intB ipA.pl.toP = true := by decide +kernel
theorem ipB_int : intB ipB.pl.toP = true := by decide +kernel
theorem intObj_of {p : Prob} (h : intB p = true) : p.IntObj := by
  unfold intB at h
  rw [Bool.and_eq_true] at h
  exact intL_iff.1 h.1
theorem ipA_le {x : Nat → Rat} (h : ipA.pl.toP.Feas x) : 0 ≤ x 0 ∧ 0 ≤ x 1 ∧ 2 * x 0 + 2 * x 1 ≤ 3 := by
  have h0 := h.1 0 (by decide)
  have h1 := h.1 1 (by decide)
  have h2 := (h.2 0 (by decide)).1 rfl
  have e0 : ipA.pl.toP.coef 0 0 = 2 := by decide +kernel
  have e1 : ipA.pl.toP.coef 0 1 = 2 := by decide +kernel
  have e2 : ipA.pl.toP.right 0 = 3 := by decide +kernel
  have d1 : dot ipA.pl.toP.n (ipA.pl.toP.coef 0) x = 0 + ipA.pl.toP.coef 0 0 * x 0 + ipA.pl.toP.coef 0 1 * x 1 := rfl
  rw [e0, e1] at d1
  rw [d1, e2] at h2
  exact ⟨h0, h1, by grind⟩
theorem ipA_dot (x : Nat → Rat) : dot ipA.pl.toP.n ipA.pl.toP.obj x = x 0 + x 1 := by
  have e3 : ipA.pl.toP.obj 0 = 1 := by decide +kernel
  have e4 : ipA.pl.toP.obj 1 = 1 := by decide +kernel
  have d2 : dot ipA.pl.toP.n ipA.pl.toP.obj x = 0 + ipA.pl.toP.obj 0 * x 0 + ipA.pl.toP.obj 1 * x 1 := rfl
  rw [e3, e4] at d2
  rw [d2]; grind
theorem ipA_one : ipA.pl.toP.FeasI (fun j => if j = 0 then 1 else 0) := by
  refine ⟨fun j _ => ?_, fun i hi => ?_⟩
  · show (0 : Rat) ≤ ((if j = 0 then 1 else 0 : Int) : Rat)
    split <;> decide
  · have hi' : i < 1 := hi
    obtain rfl : i = 0 := by omega
    exact ⟨fun _ => by decide +kernel, fun e => absurd e (by decide), fun e => absurd e (by decide)⟩
theorem ipA_solve : ∃ x t, solveR 50 ipA.pl.toP = .done 1 x t ∧ x 0 + x 1 = 1 := by
  have hv := (validB_iff.1 ipA_valid).vrel
  have ho := intObj_of ipA_int
  have hbox : ipA.pl.toP.Box (fun _ => 0) (fun _ => 2) := fun x hx j hj => by
    obtain ⟨a, b, c⟩ := ipA_le hx
    have hj : j < 2 := hj
    rcases (show j = 0 ∨ j = 1 by omega) with rfl | rfl
    · exact ⟨a, by show x 0 ≤ 2; grind⟩
    · exact ⟨b, by show x 1 ≤ 2; grind⟩
  have hsm : ipA.pl.toP.Small 2 := fun x hx => by
    obtain ⟨a, b, c⟩ := ipA_le hx
    rw [ipA_dot]
    exact ⟨by show -(2 : Rat) ≤ _; grind, by show _ ≤ (2 : Rat); grind⟩
  obtain ⟨t, s, hr, -⟩ := nodeF_box (L := 50) (k := 51) (s := ⟨0, none⟩) hv hbox (fun j _ => ⟨by omega, by omega, by omega⟩) hsm (by omega) (by omega) (by decide) (by decide)
  have hr : solveF 50 ipA.pl.toP = .ok (t, s) := hr
  obtain ⟨-, hb, hn⟩ := solveF_best hv ho hr
  have hR : solveR 50 ipA.pl.toP = resR (.ok (t, s)) := by unfold solveR; rw [if_pos ⟨ipA_valid, ipA_int⟩, hr]
  cases e : s.best with
  | none => exact absurd ipA_one (hn e _)
  | some q =>
    obtain ⟨v, x⟩ := q
    obtain ⟨h1, h2, -, -, h5⟩ := hb v x e
    obtain ⟨a, b, c⟩ := ipA_le h1
    have h6 := h5 _ ipA_one
    have d1 : ipA.pl.toP.objI x = (x 0 : Rat) + (x 1 : Rat) := ipA_dot _
    have d2 : ipA.pl.toP.objI (fun j => if j = 0 then 1 else 0) = 1 := by
      show dot _ _ _ = _
      rw [ipA_dot]; show ((1 : Int) : Rat) + ((0 : Int) : Rat) = 1; decide +kernel
    rw [d1, ← Rat.intCast_add] at h2
    have e2 : x 0 + x 1 = v := Rat.intCast_inj.1 h2
    rw [d2] at h6
    have g1 : (1 : Int) ≤ v := Rat.intCast_le_intCast.1 h6
    have g2 : ((2 * v : Int) : Rat) ≤ ((3 : Int) : Rat) := by
      rw [← e2, Rat.intCast_mul, Rat.intCast_add]
      have c : 2 * (x 0 : Rat) + 2 * (x 1 : Rat) ≤ 3 := c
      show 2 * ((x 0 : Rat) + (x 1 : Rat)) ≤ 3
      grind
    have g3 := Rat.intCast_le_intCast.1 g2
    obtain rfl : v = 1 := by omega
    exact ⟨x, t, by rw [hR]; exact resR_some e, e2⟩
theorem ipB_le {x : Nat → Rat} (h : ipB.pl.toP.Feas x) : 2 * x 0 = 1 := by
  have h2 := (h.2 0 (by decide)).2.1 rfl
  have e0 : ipB.pl.toP.coef 0 0 = 2 := by decide +kernel
  have e2 : ipB.pl.toP.right 0 = 1 := by decide +kernel
  have d1 : dot ipB.pl.toP.n (ipB.pl.toP.coef 0) x = 0 + ipB.pl.toP.coef 0 0 * x 0 := rfl
  rw [e0] at d1
  rw [d1, e2] at h2
  grind
theorem ipB_dot (x : Nat → Rat) : dot ipB.pl.toP.n ipB.pl.toP.obj x = x 0 := by
  have e3 : ipB.pl.toP.obj 0 = 1 := by decide +kernel
  have d2 : dot ipB.pl.toP.n ipB.pl.toP.obj x = 0 + ipB.pl.toP.obj 0 * x 0 := rfl
  rw [e3] at d2
  rw [d2]; grind
theorem ipB_solve : solveR 50 ipB.pl.toP = .fail 17 := by
  have hv := (validB_iff.1 ipB_valid).vrel
  have ho := intObj_of ipB_int
  have hbox : ipB.pl.toP.Box (fun _ => 0) (fun _ => 2) := fun x hx j hj => by
    have a := ipB_le hx
    have hj : j < 1 := hj
    obtain rfl : j = 0 := by omega
    exact ⟨by show (0 : Rat) ≤ x 0; grind, by show x 0 ≤ 2; grind⟩
  have hsm : ipB.pl.toP.Small 2 := fun x hx => by
    have a := ipB_le hx
    rw [ipB_dot]
    exact ⟨by show -(2 : Rat) ≤ _; grind, by show _ ≤ (2 : Rat); grind⟩
  obtain ⟨t, s, hr, -⟩ := nodeF_box (L := 50) (k := 51) (s := ⟨0, none⟩) hv hbox (fun j _ => ⟨by omega, by omega, by omega⟩) hsm (by omega) (by omega) (by decide) (by decide)
  have hr : solveF 50 ipB.pl.toP = .ok (t, s) := hr
  obtain ⟨-, hb, hn⟩ := solveF_best hv ho hr
  have hR : solveR 50 ipB.pl.toP = resR (.ok (t, s)) := by unfold solveR; rw [if_pos ⟨ipB_valid, ipB_int⟩, hr]
  cases e : s.best with
  | none => rw [hR]; exact resR_none e
  | some q =>
    obtain ⟨v, x⟩ := q
    obtain ⟨h1, -⟩ := hb v x e
    have a : 2 * (x 0 : Rat) = 1 := ipB_le h1
    have b : ((2 * x 0 : Int) : Rat) = ((1 : Int) : Rat) := by rw [Rat.intCast_mul]; exact a
    have := Rat.intCast_inj.1 b
    omega
/-- problems of Make with whole numbers -/
theorem IP.can {ip : IP} (hok : ip.ok) {k M K : Nat} (hn : ip.pl.toP.n ≤ k) (hm : ip.pl.toP.m ≤ M) (hM : M ≤ 1000) (hK : bK3 M k 2 3 2 ≤ K) (hK2 : K ≤ 134217728) (hv : validB ip.pl.toP = true) : CanI ip.pl.toP k M K :=
  ⟨hv, hn, hm, hM, fun j _ => IP.obj_b hok j, fun i hi j _ => IP.coef_b hok hi j, fun i hi => QB_mono (by omega) (IP.right_b hok hi), hK, hK2⟩
end Go.Proofs.Ythafabkjidifeaa.Lp
