/- Plain: the value of an optimum, and its multipliers, are bounded more tightly: the costs as a further row of the tableau. -/
import Derived.Test.YtgffcblldebelaaDoorLV5
set_option linter.unusedVariables false
set_option linter.unusedSimpArgs false
namespace Go.Proofs.YtgffcblldebelaaDoor.Lp
open Go.Proofs.YtgffcblldebelaaDoor.Big Go.Proofs.YtgffcblldebelaaDoor.Rt

section
variable {p : Prob} {C : Nat → Rat} {R : Nat → Nat → Rat} {b : Nat → Nat}
/-- the further row and its column -/
def Prob.Ap (p : Prob) (b : Nat → Nat) (i j : Nat) : Rat := if j = p.W + 1 then 0 else if i = p.m then (if j = p.W then 1 else p.D2 j) else if j = p.W then 0 else p.T0' b i j
def Prob.up (p : Prob) (b : Nat → Nat) (i : Nat) : Nat := if i = p.m then p.W else p.un' b i
def Rp (p : Prob) (R : Nat → Nat → Rat) (C : Nat → Rat) (i j : Nat) : Rat := if j = p.W + 1 then 0 else if i = p.m then (if j = p.W then 1 else C j) else if j = p.W then 0 else R i j
def bp (p : Prob) (b : Nat → Nat) (i : Nat) : Nat := if i = p.m then p.W else b i
theorem Inv.C_un (hv : p.Vrel) (h : Inv p.m p.W p.T0 p.un p.D2 R C b) {j : Nat} (hj : j ≤ p.W) : C j = p.D2 j + sm p.m (fun k => C (p.un k) * p.T0 k j) := by
  rw [h.CM (fun k hk => Prob.un_lt hv hk) hj]
  have : sm p.m (fun k => (p.D2 (p.un k) - C (p.un k)) * p.T0 k j) = -sm p.m (fun k => C (p.un k) * p.T0 k j) := by
    rw [← sm_neg]; exact sm_congr fun k _ => by rw [Prob.D2_un]; grind
  rw [this]; grind
theorem Inv.C_sl (hv : p.Vrel) (h : Inv p.m p.W p.T0 p.un p.D2 R C b) {k : Nat} (hk : k < p.m) (hr : p.rel k ≠ 2) (hd : p.dir k ≠ 1) : C (p.sl k) = -C (p.un k) := by
  have h1 := Prob.sl_lt hk hr
  have h2 := p.art_le
  rw [h.C_un hv (j := p.sl k) (by omega), Prob.D2_sl, sm_only hk (fun l _ hne => by rw [Prob.T0_sl hk hr, if_neg hne]; exact Rat.mul_zero _), Prob.T0_sl hk hr, if_pos rfl, if_neg hd]
  grind
theorem Prob.un'_lt (hv : p.Vrel) {i : Nat} (hi : i < p.m) : p.un' b i < p.W := by
  unfold Prob.un'
  split
  · next ha => have := Prob.sl_lt hi (Prob.alt_iff.1 ha).1; have := p.art_le; omega
  · exact Prob.un_lt hv hi
theorem Prob.D2_un' {i : Nat} : p.D2 (p.un' b i) = 0 := by
  unfold Prob.un'
  split
  · exact Prob.D2_sl i
  · exact Prob.D2_un i
theorem Prob.can2 (hv : p.Vrel) (h : Inv p.m p.W p.T0 p.un p.D2 R C b) : Can (p.m + 1) (p.W + 1) (p.Ap b) (p.up b) (Rp p R C) (bp p b) := by
  have hc := Prob.can hv h
  have hup : ∀ i, i < p.m → p.up b i = p.un' b i := fun i hi => by unfold Prob.up; rw [if_neg (by omega)]
  have hbp : ∀ i, i < p.m → bp p b i = b i := fun i hi => by unfold bp; rw [if_neg (by omega)]
  have hupm : p.up b p.m = p.W := by unfold Prob.up; rw [if_pos rfl]
  have hbpm : bp p b p.m = p.W := by unfold bp; rw [if_pos rfl]
  have A0 : ∀ i j, i < p.m → j < p.W → p.Ap b i j = p.T0' b i j := fun i j hi hj => by unfold Prob.Ap; rw [if_neg (by omega), if_neg (by omega), if_neg (by omega)]
  have AW : ∀ i, i < p.m → p.Ap b i p.W = 0 := fun i hi => by unfold Prob.Ap; rw [if_neg (by omega), if_neg (by omega), if_pos rfl]
  have Am : ∀ j, j < p.W → p.Ap b p.m j = p.D2 j := fun j hj => by unfold Prob.Ap; rw [if_neg (by omega), if_pos rfl, if_neg (by omega)]
  have AmW : p.Ap b p.m p.W = 1 := by unfold Prob.Ap; rw [if_neg (by omega), if_pos rfl, if_pos rfl]
  have A1 : ∀ i, p.Ap b i (p.W + 1) = 0 := fun i => by unfold Prob.Ap; rw [if_pos rfl]
  have R0 : ∀ i j, i < p.m → j < p.W → Rp p R C i j = R i j := fun i j hi hj => by unfold Rp; rw [if_neg (by omega), if_neg (by omega), if_neg (by omega)]
  have RW : ∀ i, i < p.m → Rp p R C i p.W = 0 := fun i hi => by unfold Rp; rw [if_neg (by omega), if_neg (by omega), if_pos rfl]
  have Rm : ∀ j, j < p.W → Rp p R C p.m j = C j := fun j hj => by unfold Rp; rw [if_neg (by omega), if_pos rfl, if_neg (by omega)]
  have RmW : Rp p R C p.m p.W = 1 := by unfold Rp; rw [if_neg (by omega), if_pos rfl, if_pos rfl]
  have R1 : ∀ i, Rp p R C i (p.W + 1) = 0 := fun i => by unfold Rp; rw [if_pos rfl]
  have T0W : ∀ i j, j ≠ p.W → p.T0' b i j = if p.alt b i = true then -p.T0 i j else p.T0 i j := fun i j hj => Prob.T0'_ne hj
  have hM' : ∀ i j, i < p.m → j < p.W → R i j = sm p.m (fun k => R i (p.un' b k) * p.T0' b k j) := by
    intro i j hi hj
    have h1 := hc.M i hi j (by omega)
    rw [if_neg (by omega)] at h1
    rw [h1]
    refine sm_congr fun k hk => ?_
    show (if p.un' b k = p.W then 0 else R i (p.un' b k)) * p.T0' b k j = _
    rw [if_neg (by have := Prob.un'_lt (b := b) hv hk; omega)]
  have hJ' : ∀ i j, i < p.m → j < p.W → p.T0' b i j = sm p.m (fun k => p.T0' b i (b k) * R k j) := by
    intro i j hi hj
    rw [hc.J i hi j (by omega)]
    refine sm_congr fun k hk => ?_
    show p.T0' b i (b k) * (if j = p.W then 0 else R k j) = _
    rw [if_neg (by omega)]
  have hC' : ∀ j, j < p.W → C j = p.D2 j + sm p.m (fun k => C (p.un' b k) * p.T0' b k j) := by
    intro j hj
    rw [h.C_un hv (by omega)]
    congr 1
    refine sm_congr fun k hk => ?_
    rw [T0W k j (by omega)]
    unfold Prob.un'
    cases ha : p.alt b k with
    | true =>
      obtain ⟨a1, a2, _⟩ := Prob.alt_iff.1 ha
      rw [if_pos rfl, if_pos rfl, h.C_sl hv hk a1 a2]; grind
    | false => rfl
  refine ⟨?_, ?_, ?_, ?_, ?_, ?_⟩
  · intro i hi
    by_cases e : i = p.m
    · rw [e, hbpm]; omega
    · rw [hbp i (by omega)]; have := h.bW i (by omega); omega
  · intro i hi
    by_cases e : i = p.m
    · rw [e, hupm]; omega
    · rw [hup i (by omega)]; have := Prob.un'_lt (b := b) hv (show i < p.m by omega); omega
  · intro k hk l hl
    by_cases el : l = p.m
    · subst el
      rw [hupm]
      by_cases ek : k = p.m
      · subst ek; rw [AmW, if_pos rfl]
      · rw [AW k (by omega), if_neg ek]
    · rw [hup l (by omega)]
      have hl' := Prob.un'_lt (b := b) hv (show l < p.m by omega)
      by_cases ek : k = p.m
      · subst ek; rw [Am _ hl', Prob.D2_un', if_neg (Ne.symm el)]
      · rw [A0 k _ (by omega) hl', hc.uU k (by omega) l (by omega)]
  · intro k hk l hl
    by_cases el : l = p.m
    · subst el
      rw [hbpm]
      by_cases ek : k = p.m
      · subst ek; rw [RmW, if_pos rfl]
      · rw [RW k (by omega), if_neg ek]
    · rw [hbp l (by omega)]
      have hl' := h.bW l (by omega)
      by_cases ek : k = p.m
      · subst ek; rw [Rm _ hl', h.Cb (by omega), if_neg (Ne.symm el)]
      · rw [R0 k _ (by omega) hl', h.U k (by omega) l (by omega)]
  · intro i hi j hj
    show _ = sm p.m (fun k => Rp p R C i (p.up b k) * p.Ap b k j) + Rp p R C i (p.up b p.m) * p.Ap b p.m j
    rw [hupm]
    have e1 : ∀ k, k < p.m → Rp p R C i (p.up b k) * p.Ap b k j = Rp p R C i (p.un' b k) * p.Ap b k j := fun k hk => by rw [hup k hk]
    rw [sm_congr e1]
    by_cases ej1 : j = p.W + 1
    · subst ej1
      rw [R1, A1, sm_zero' (fun k _ => by rw [A1]; exact Rat.mul_zero _)]; grind
    · by_cases ejW : j = p.W
      · subst ejW
        rw [sm_zero' (fun k hk => by rw [AW k hk]; exact Rat.mul_zero _), AmW]
        by_cases ei : i = p.m
        · subst ei; rw [RmW]; grind
        · rw [RW i (by omega)]; grind
      · have hjl : j < p.W := by omega
        by_cases ei : i = p.m
        · subst ei
          have e2 : ∀ k, k < p.m → Rp p R C p.m (p.un' b k) * p.Ap b k j = C (p.un' b k) * p.T0' b k j := fun k hk => by rw [Rm _ (Prob.un'_lt hv hk), A0 k j hk hjl]
          rw [sm_congr e2, Rm j hjl, RmW, Am j hjl, hC' j hjl]; grind
        · have e2 : ∀ k, k < p.m → Rp p R C i (p.un' b k) * p.Ap b k j = R i (p.un' b k) * p.T0' b k j := fun k hk => by rw [R0 i _ (by omega) (Prob.un'_lt hv hk), A0 k j hk hjl]
          rw [sm_congr e2, R0 i j (by omega) hjl, RW i (by omega), hM' i j (by omega) hjl]; grind
  · intro i hi j hj
    show _ = sm p.m (fun k => p.Ap b i (bp p b k) * Rp p R C k j) + p.Ap b i (bp p b p.m) * Rp p R C p.m j
    rw [hbpm]
    have e1 : ∀ k, k < p.m → p.Ap b i (bp p b k) * Rp p R C k j = p.Ap b i (b k) * Rp p R C k j := fun k hk => by rw [hbp k hk]
    rw [sm_congr e1]
    by_cases ej1 : j = p.W + 1
    · subst ej1
      rw [A1, R1, sm_zero' (fun k _ => by rw [R1]; exact Rat.mul_zero _)]; grind
    · by_cases ejW : j = p.W
      · subst ejW
        rw [sm_zero' (fun k hk => by rw [RW k hk]; exact Rat.mul_zero _), RmW]
        by_cases ei : i = p.m
        · subst ei; rw [AmW]; grind
        · rw [AW i (by omega)]; grind
      · have hjl : j < p.W := by omega
        by_cases ei : i = p.m
        · subst ei
          have e2 : ∀ k, k < p.m → p.Ap b p.m (b k) * Rp p R C k j = p.D2 (b k) * R k j := fun k hk => by rw [Am _ (h.bW k hk), R0 k j hk hjl]
          rw [sm_congr e2, Am j hjl, AmW, Rm j hjl, h.CJ j (by omega)]; grind
        · have e2 : ∀ k, k < p.m → p.Ap b i (b k) * Rp p R C k j = p.T0' b i (b k) * R k j := fun k hk => by rw [A0 i _ (by omega) (h.bW k hk), R0 k j hk hjl]
          rw [sm_congr e2, A0 i j (by omega) hjl, AW i (by omega), hJ' i j (by omega) hjl]; grind
theorem Prob.can2_r (hv : p.Vrel) (h : Inv p.m p.W p.T0 p.un p.D2 R C b) : ∀ l, l < p.m + 1 → rng (p.m + 1) (p.up b) (bp p b l) = true ∨ bp p b l < p.n := by
  intro l hl
  by_cases e : l = p.m
  · left
    refine rng_iff.2 ⟨p.m, by omega, ?_⟩
    subst e
    unfold Prob.up bp; rw [if_pos rfl, if_pos rfl]
  · have hb : bp p b l = b l := by unfold bp; rw [if_neg e]
    rw [hb]
    rcases Prob.can_r hv h l (by omega) with h1 | h1
    · left
      obtain ⟨k, hk, hu⟩ := rng_iff.1 h1
      exact rng_iff.2 ⟨k, by omega, by unfold Prob.up; rw [if_neg (by omega)]; exact hu⟩
    · exact .inr h1
/-- the costs, apart from the value -/
theorem Prob.bndC {P : Nat → Rat → Prop} (hP : Mag P) (hv : p.Vrel) (h : Inv p.m p.W p.T0 p.un p.D2 R C b) {k h0 : Nat} (hk : p.n ≤ k) (hp0 : 0 < h0) (hone : P h0 1) (hA : ∀ i, i < p.m → ∀ j, j < p.W → P h0 (p.T0 i j)) (ho : ∀ j, j < p.n → P h0 (p.obj j)) : ∀ j, j < p.W → P (grow k h0) (C j) := by
  intro j hj
  have hD : ∀ j, P h0 (p.D2 j) := fun j => by
    unfold Prob.D2
    split
    · next hj => exact hP.neg (ho j hj)
    · exact hP.zero hp0
  have h1 := Can.bound hP k h0 (p.Ap b) (p.up b) p.n (Prob.can2 hv h) (fun i hi j hj => by
    unfold Prob.Ap
    split
    · exact hP.zero hp0
    · split
      · split
        · exact hone
        · exact hD j
      · split
        · exact hP.zero hp0
        · unfold Prob.T0'
          split
          · exact hP.zero hp0
          · split
            · exact hP.neg (hA i (by omega) j (by omega))
            · exact hA i (by omega) j (by omega)) (Prob.can2_r hv h) (Nat.le_trans (cnt_le _ _) hk) p.m (by omega) j (by omega)
  unfold Rp at h1
  rw [if_neg (by omega), if_pos rfl, if_neg (by omega)] at h1
  exact h1
theorem Prob.bndV {P : Nat → Rat → Prop} (hP : Mag P) (hv : p.Vrel) (h : Inv p.m p.W p.T0 p.un p.D2 R C b) {k h0 hr : Nat} (hk : p.n ≤ k) (hp0 : 0 < h0) (hone : P h0 1) (hA : ∀ i, i < p.m → ∀ j, j < p.W → P h0 (p.T0 i j)) (hW : ∀ i, i < p.m → P hr (p.T0 i p.W)) (ho : ∀ j, j < p.n → P h0 (p.obj j)) : P (1 + p.m * (grow k h0 + hr + 1)) (C p.W) := by
  have h1 := Prob.bndC hP hv h hk hp0 hone hA ho
  have h2 := h.C_un hv (Nat.le_refl p.W)
  rw [Prob.D2_W] at h2
  have h3 := hP.sum p.m (c := grow k h0 + hr) (f := fun l => C (p.un l) * p.T0 l p.W) (fun l hl => hP.mul (h1 _ (Prob.un_lt hv hl)) (hW l hl))
  rw [h2, show (0 : Rat) + sm p.m (fun l => C (p.un l) * p.T0 l p.W) = sm p.m (fun l => C (p.un l) * p.T0 l p.W) by grind]
  exact h3
end
/-- the value of an optimum of a law's problem -/
theorem IP.value_b {ip : IP} (h : ip.ok) (hn : ip.pl.toP.n ≤ 8) (hm : ip.pl.toP.m ≤ 8) (hv : validB ip.pl.toP = true) {z : Rat} {x y : Nat → Rat} (hs : ip.pl.toP.sol = .opt z x y) : QB 1300000 z := by
  have hr := (validB_iff.1 hv).vrel
  by_cases h0 : ip.pl.toP.s1.C ip.pl.toP.W = 0
  · by_cases h1 : entL ip.pl.toP.s2.C ip.pl.toP.s2.stalled ip.pl.toP.art = none
    · rw [sol_opt h0 h1] at hs
      injection hs with hz
      have hE := Prob.end2 hr h0
      have hb := Prob.bndV QB_mag hr hE.way.inv (k := 8) (h0 := 2) (hr := 2) hn (by omega) (QB_one (by omega)) (Prob.T0_bnd QB_mag (by omega) (QB_one (by omega)) (fun i hi j _ => IP.coef_b h hi j)) (Prob.T0_bndW QB_mag (fun i hi => IP.right_b h hi)) (fun j _ => IP.obj_b h j)
      rw [← hz]
      refine QB_mono ?_ hb
      have h2 : grow 8 2 ≤ 152917 := by decide
      have := Nat.mul_le_mul hm (show grow 8 2 + 2 + 1 ≤ 152920 by omega)
      omega
    · rw [sol_unb h0 h1] at hs; cases hs
  · rw [sol_inf h0] at hs; cases hs
end Go.Proofs.YtgffcblldebelaaDoor.Lp
