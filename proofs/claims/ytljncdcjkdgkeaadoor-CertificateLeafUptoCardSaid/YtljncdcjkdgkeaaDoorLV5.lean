/- Walks: product, Value. Plain: Bnd, from bounds of a problem's numbers. Solve and Farkas: contracts in one form. What the laws' numbers are bounded by; the examples of the chapter (plain). -/
import Derived.Test.YtljncdcjkdgkeaaDoorLN2
import Derived.Test.YtljncdcjkdgkeaaDoorLJ
import Derived.Test.YtljncdcjkdgkeaaDoorLSC
import Derived.Test.YtljncdcjkdgkeaaDoorT6
set_option linter.unusedVariables false
set_option linter.unusedSimpArgs false
namespace Go.Proofs.YtljncdcjkdgkeaaDoor.Lp
open Go.RowKit Go.Proofs.YtljncdcjkdgkeaaDoor.Big Go.Proofs.YtljncdcjkdgkeaaDoor.Rt

theorem QB_zero {k : Nat} (h : 0 < k) : QB k 0 := by
  have h1 := pw_le h
  rw [pw_one] at h1
  exact ⟨by show (0 : Int).natAbs < pw k; simp; omega, by show ((1 : Nat) : Int).natAbs < pw k; simp; omega⟩
theorem QB_mag : Mag QB :=
  ⟨fun h b => QB_mono h b, QB_neg, fun {j k x y} a b => by rw [Rat.sub_eq_add_neg]; exact QB_add a (QB_neg b), QB_add, QB_mul, fun a b h => QB_div a b (fun e => h (Rat.num_eq_zero.1 e)), QB_zero⟩
theorem sm_step (n : Nat) (f : Nat → Rat) : sm (n + 1) f = sm n f + f n := rfl
theorem nonzero_sign {q : Rat} (h : q ≠ 0) : (q.num.sign != 0) = true := by
  have := sign_ne (x := q.num) (fun e => h (Rat.num_eq_zero.1 e)); simpa using this
theorem zero_sign {q : Rat} (h : q = 0) : (q.num.sign != 0) = false := by rw [h]; rfl
end Go.Proofs.YtljncdcjkdgkeaaDoor.Lp

namespace Go.Proofs.YtljncdcjkdgkeaaDoor.Lp
open Go.Proofs.YtljncdcjkdgkeaaDoor.Big Go.Proofs.YtljncdcjkdgkeaaDoor.Rt

theorem QB_one {k : Nat} (h : 0 < k) : QB k 1 := ⟨B_one h, B_one h⟩
theorem Bnd.of {p : Prob} (hv : p.Vrel) (k h hr hd : Nat) (hk : p.n ≤ k ∨ p.m ≤ k) (h1 : 2 ≤ h) (hrr : h ≤ hr) (hdd : h ≤ hd) (hK : bK3 p.m k h hr hd ≤ 134217728)
    (ho : ∀ j, j < p.n → QB hd (p.obj j)) (hc : ∀ i, i < p.m → ∀ j, j < p.n → QB h (p.coef i j)) (hb : ∀ i, i < p.m → QB hr (p.right i)) : Bnd p (bK3 p.m k h hr hd) := by
  have hA := Prob.T0_bnd QB_mag (p := p) (h0 := h) (by omega) (QB_one (by omega)) hc
  have hW := Prob.T0_bndW QB_mag (p := p) hb
  have g1 : h ≤ bK3 p.m k h hr hd := by have := bK3_ge p.m k h hr hd; omega
  have hD1 : ∀ j, j ≤ p.W → QB hd (p.D1 j) := fun j _ => by
    unfold Prob.D1
    split
    · exact QB_one (by omega)
    · exact QB_zero (by omega)
  have hD2 : ∀ j, j ≤ p.W → QB hd (p.D2 j) := fun j _ => by
    unfold Prob.D2
    split
    · next hj => exact QB_neg (ho j hj)
    · exact QB_zero (by omega)
  have hK2 := bK3_ge p.m k h hr hd
  have key : ∀ {D : Nat → Rat} {s : St}, (∀ j, j ≤ p.W → QB hd (D j)) → Inv p.m p.W p.T0 p.un D s.R s.C s.b → (∀ i, i < p.m → ∀ j, j ≤ p.W → QB (bK3 p.m k h hr hd) (s.R i j)) ∧ (∀ j, j ≤ p.W → QB (bK3 p.m k h hr hd) (s.C j)) := fun hD hI =>
    ⟨fun i hi j hj => QB_mono hK2.1 (Prob.bnd2 QB_mag hv hI hk (by omega) hA hW i hi j hj), Prob.bnd3 QB_mag hv hI hk (by omega) hA hW hD⟩
  refine ⟨hK, by omega, fun j hj => QB_mono hK2.2 (ho j hj), fun i hi j hj => QB_mono g1 (hc i hi j hj), fun i hi => QB_mono ?_ (hb i hi), ?_, ?_, ?_, ?_, ?_⟩
  · have : hr ≤ bK2 p.m k h hr := by
      unfold bK2
      have : 1 * (grow k h + hr + 1) ≤ p.m * (grow k h + hr + 1) := Nat.mul_le_mul_right _ (by omega)
      omega
    omega
  · intro s hs
    obtain ⟨a, c⟩ := key hD1 hs.inv
    exact ⟨a, c, hs.inv.bW⟩
  · intro i hi
    exact Prob.bndR QB_mag hv (Prob.inv0 hv p.D1) hi hk (by omega) hA hW hD1
  · intro i hi
    exact key hD1 (exL_inv (Prob.end1 hv).inv i hi)
  · intro i hi
    exact Prob.bndR QB_mag hv (exL_inv (Prob.end1 hv).inv p.m (Nat.le_refl _)) hi hk (by omega) hA hW hD2
  · intro s hs
    obtain ⟨a, c⟩ := key hD2 hs.way.inv
    exact ⟨a, c, hs.way.inv.bW⟩
end Go.Proofs.YtljncdcjkdgkeaaDoor.Lp

namespace Go.Proofs.YtljncdcjkdgkeaaDoor.Lp
open Go.RowKit Go.Proofs.YtljncdcjkdgkeaaDoor.Big Go.Proofs.YtljncdcjkdgkeaaDoor.Rt

theorem Prob.D2_mult (p : Prob) (C : Nat → Rat) (i : Nat) : muV p.art C p.un p.flip 0 i = p.mult p.D2 C i := by
  unfold muV Prob.mult Prob.sg
  rw [Prob.D2_un]
  have : (if p.art ≤ p.un i then (0 : Rat) else 0) = 0 := by split <;> rfl
  rw [this]
  split <;> grind
theorem Prob.D1_mult {p : Prob} (hv : p.Vrel) (C : Nat → Rat) {i : Nat} (hi : i < p.m) : muV p.art C p.un p.flip (-1) i = p.mult p.D1 C i := by
  unfold muV Prob.mult Prob.sg
  rw [Prob.D1_un hv hi]
  split <;> split <;> grind
theorem pt_bound {m W : Nat} {R : Nat → Nat → Rat} {b : Nat → Nat} {K : Nat} (hK : 0 < K) (hR : ∀ i, i < m → QB K (R i W)) (hinj : ∀ k l, k < m → l < m → b k = b l → k = l) (j : Nat) : QB K (pt m W R b j) := by
  unfold pt
  by_cases h : ∃ k, k < m ∧ b k = j
  · obtain ⟨k, hk, e⟩ := h
    rw [sm_only hk (fun l hl hne => if_neg (fun e' => hne (hinj l k hl hk (e'.trans e.symm)))), if_pos e]
    exact hR k hk
  · rw [sm_zero' (fun k hk => if_neg (fun e => h ⟨k, hk, e⟩))]
    exact QB_zero hK
theorem mult_bound {p : Prob} {D C : Nat → Rat} {K i : Nat} (hC : QB K (C (p.un i))) (hD : QB 1 (D (p.un i))) : QB (K + 1 + 1) (p.mult D C i) := by
  unfold Prob.mult Prob.sg
  have h := QB_mag.sub hC hD
  split
  · exact QB_neg h
  · exact h
/-- what Solve answers -/
def Res (p : Prob) (k : Int) (z : Rat) (nx : Nat) (xs : Nat → Rat) (ny : Nat) (ys : Nat → Rat) : Prop :=
  (validB p = false ∧ k = 3 ∧ z = 0 ∧ nx = 0 ∧ ny = 0) ∨ (validB p = true ∧ k = p.sol.err ∧ z = p.sol.val ∧ ((k = 0 ∧ nx = p.n ∧ ny = p.m ∧ p.sol = .opt z xs ys) ∨ (k ≠ 0 ∧ nx = 0 ∧ ny = 0)))
def SolPost (w : World) (p : Prob) (K : Nat) (e : Ending) (w' : World) : Prop :=
  ∃ q A n c q' A' n' c' Ax nx cx Ay ny cy k z xs ys, e = .returned (.tuple #[.agg #[.bool q, .slice A n c, .bool q', .slice A' n' c', .slice Ax nx cx, .slice Ay ny cy], .int .i64 k]) ∧ RatB w' (.agg #[.bool q, .slice A n c, .bool q', .slice A' n' c']) z (K + 2) ∧
    RatsV w' Ax nx cx xs ∧ RatsV w' Ay ny cy ys ∧ (∀ j, j < nx → QB (K + 2) (xs j)) ∧ (∀ i, i < ny → QB (K + 2) (ys i)) ∧ Res p k z nx xs ny ys ∧ Ext w w'
theorem RatsV.none (w : World) (f : Nat → Rat) : RatsV w none 0 0 f := ⟨by omega, by omega, fun h => absurd h (by omega)⟩
theorem sol_zero (w w' : World) (p : Prob) (K : Nat) (k : Int) (hx : Ext w w') (h : (validB p = false ∧ k = 3) ∨ (validB p = true ∧ k = p.sol.err ∧ 0 = p.sol.val ∧ k ≠ 0)) : SolPost w p K (noSol k) w' :=
  ⟨_, _, _, _, _, _, _, _, _, 0, _, _, 0, _, k, 0, fun _ => 0, fun _ => 0, rfl, ⟨RatV.zero w', QB_zero (by omega)⟩, RatsV.none _ _, RatsV.none _ _, fun j hj => absurd hj (by omega), fun j hj => absurd hj (by omega), h.elim (fun h => .inl ⟨h.1, h.2, rfl, rfl, rfl⟩) (fun h => .inr ⟨h.1, h.2.1, h.2.2.1, .inr ⟨h.2.2.2, rfl, rfl⟩⟩), hx⟩
theorem sol_inf {p : Prob} (h : p.s1.C p.W ≠ 0) : p.sol = .inf (p.mult p.D1 p.s1.C) := by unfold Prob.sol; rw [if_pos h]
theorem sol_unb {p : Prob} (h : p.s1.C p.W = 0) (h2 : entL p.s2.C p.s2.stalled p.art ≠ none) : p.sol = .unb := by unfold Prob.sol; rw [if_neg (fun h' => h' h), if_neg h2]
theorem sol_opt {p : Prob} (h : p.s1.C p.W = 0) (h2 : entL p.s2.C p.s2.stalled p.art = none) : p.sol = .opt (p.s2.C p.W) (pt p.m p.W p.s2.R p.s2.b) (p.mult p.D2 p.s2.C) := by unfold Prob.sol; rw [if_neg (fun h' => h' h), if_pos h2]
def FarPost (w : World) (p : Prob) (K : Nat) (e : Ending) (w' : World) : Prop :=
  ∃ A n c ok ys, e = .returned (.tuple #[.slice A n c, .bool ok]) ∧ RatsV w' A n c ys ∧ (∀ i, i < n → QB (K + 2) (ys i)) ∧ ((ok = true ∧ validB p = true ∧ n = p.m ∧ p.sol = .inf ys) ∨ (ok = false ∧ n = 0 ∧ (validB p = true → p.sol.err ≠ 17))) ∧ Ext w w'
end Go.Proofs.YtljncdcjkdgkeaaDoor.Lp

namespace Go.Proofs.YtljncdcjkdgkeaaDoor.Lp
open Go.RowKit Go.Proofs.YtljncdcjkdgkeaaDoor.Big Go.Proofs.YtljncdcjkdgkeaaDoor.Rt

theorem qn_int (n : Int) : qn n 0 = (n : Rat) := by
  unfold qn
  show Rat.divInt n 1 = (n : Rat)
  obtain ⟨a, b⟩ := divInt_one' n
  exact Rat.ext (by rw [a]; rfl) (by rw [b]; rfl)
theorem qn_bound {n : Int} {d : Nat} (h : in32 n) : QB 2 (qn n d) := by
  have h1 : B 2 n := by
    unfold B; rw [pw_two_eq]
    have := h.1; have := h.2; omega
  have h2 : B 2 (1 + ((d % 6 : Nat) : Int)) := by
    unfold B; rw [pw_two_eq]; omega
  have := QB_red h1 h2 (by omega)
  simpa [qn] using this
theorem in32_zero : in32 0 := ⟨by decide, by decide⟩
theorem in32_get {l : List Int} (h : ∀ z ∈ l, in32 z) (j : Nat) : in32 (l.getD j 0) := by
  rw [List.getD_eq_getElem?_getD]
  cases e : l[j]? with
  | none => exact in32_zero
  | some a => exact h a (List.mem_of_getElem? e)
theorem IP.obj_b {p : IP} (h : p.ok) (j : Nat) : QB 2 (p.pl.toP.obj j) := by
  show QB 2 ((p.obj.map (qn · p.den)).getD j 0)
  rw [qn_get]; exact qn_bound (in32_get h.1 j)
theorem IP.row_some {p : IP} {i : Nat} (hi : i < p.pl.toP.m) : ∃ r, p.rows[i]? = some r ∧ p.pl.rows.getD i RL.zero = r.rl p.den := by
  have hi' : i < p.rows.length := by simpa [PL.toP, IP.pl] using hi
  exact ⟨_, List.getElem?_eq_getElem hi', IP.row (List.getElem?_eq_getElem hi')⟩
theorem IP.coef_b {p : IP} (h : p.ok) {i : Nat} (hi : i < p.pl.toP.m) (j : Nat) : QB 2 (p.pl.toP.coef i j) := by
  obtain ⟨r, h1, h2⟩ := IP.row_some hi
  show QB 2 ((p.pl.rows.getD i RL.zero).coef.getD j 0)
  rw [h2]
  show QB 2 ((r.coef.map (qn · p.den)).getD j 0)
  rw [qn_get]; exact qn_bound (in32_get (h.2.2.2.2 r (List.mem_of_getElem? h1)).1 j)
theorem IP.right_b {p : IP} (h : p.ok) {i : Nat} (hi : i < p.pl.toP.m) : QB 2 (p.pl.toP.right i) := by
  obtain ⟨r, h1, h2⟩ := IP.row_some hi
  show QB 2 (p.pl.rows.getD i RL.zero).right
  rw [h2]
  exact qn_bound (h.2.2.2.2 r (List.mem_of_getElem? h1)).2.1
theorem Bnd.up {p : Prob} {K K' : Nat} (h : Bnd p K) (hK : K ≤ K') (hK' : K' ≤ 134217728) : Bnd p K' :=
  ⟨hK', Nat.le_trans h.one hK, fun j hj => QB_mono hK (h.obj j hj), fun i hi j hj => QB_mono hK (h.coef i hi j hj), fun i hi => QB_mono hK (h.right i hi),
    fun s hs => ⟨fun i hi j hj => QB_mono hK ((h.way s hs).1 i hi j hj), fun j hj => QB_mono hK ((h.way s hs).2.1 j hj), (h.way s hs).2.2⟩, fun i hi j hj => QB_mono hK (h.red1 i hi j hj),
    fun i hi => ⟨fun k hk j hj => QB_mono hK ((h.exp i hi).1 k hk j hj), fun j hj => QB_mono hK ((h.exp i hi).2 j hj)⟩, fun i hi j hj => QB_mono hK (h.red2 i hi j hj),
    fun s hs => ⟨fun i hi j hj => QB_mono hK ((h.way2 s hs).1 i hi j hj), fun j hj => QB_mono hK ((h.way2 s hs).2.1 j hj), (h.way2 s hs).2.2⟩⟩
theorem bK2_mono {m m' k k' h hr hr' : Nat} (hm : m ≤ m') (hk : k ≤ k') (hh : hr ≤ hr') : bK2 m k h hr ≤ bK2 m' k' h hr' := by
  unfold bK2
  have h1 := grow_mono h hk
  have := Nat.mul_le_mul hm (show grow k h + hr + 1 ≤ grow k' h + hr' + 1 by omega)
  omega
theorem bK3_mono {m m' k k' h hr hr' hd : Nat} (hm : m ≤ m') (hk : k ≤ k') (hh : hr ≤ hr') : bK3 m k h hr hd ≤ bK3 m' k' h hr' hd := by
  unfold bK3
  have h1 := bK2_mono (h := h) hm hk hh
  have := Nat.mul_le_mul hm (show hd + bK2 m k h hr + 1 ≤ hd + bK2 m' k' h hr' + 1 by omega)
  omega
theorem IP.bnd {p : IP} (h : p.ok) (hn : p.pl.toP.n ≤ 8) (hm : p.pl.toP.m ≤ 9) (hv : validB p.pl.toP = true) : Bnd p.pl.toP 16000000 := by
  have hr := (validB_iff.1 hv).vrel
  have h1 : bK3 p.pl.toP.m 8 2 2 2 ≤ bK3 9 8 2 2 2 := bK3_mono hm (Nat.le_refl _) (Nat.le_refl _)
  have h2 : bK3 9 8 2 2 2 ≤ 16000000 := by decide
  exact (Bnd.of hr 8 2 2 2 (.inl hn) (by omega) (by omega) (by omega) (by omega) (fun j _ => IP.obj_b h j) (fun i hi j _ => IP.coef_b h hi j) (fun i hi => IP.right_b h hi)).up (by omega) (by omega)

/-! the examples -/
def ip1 : IP := ⟨[3, 2], [⟨[1, 1], 1, 4⟩, ⟨[1, 3], 1, 6⟩], 0⟩
def ip2 : IP := ⟨[0, 0], [⟨[1, 1], 1, -1⟩], 0⟩
theorem ip1_ok : ip1.ok := by
  refine ⟨fun z hz => ?_, by decide, by decide, by decide, fun r hr => ?_⟩
  · simp [ip1] at hz; rcases hz with rfl | rfl <;> exact ⟨by decide, by decide⟩
  · simp [ip1] at hr
    rcases hr with rfl | rfl
    · exact ⟨fun z hz => by simp at hz; subst hz; exact ⟨by decide, by decide⟩, ⟨by decide, by decide⟩, by decide, by decide⟩
    · exact ⟨fun z hz => by simp at hz; rcases hz with rfl | rfl <;> exact ⟨by decide, by decide⟩, ⟨by decide, by decide⟩, by decide, by decide⟩
theorem ip2_ok : ip2.ok := by
  refine ⟨fun z hz => ?_, by decide, by decide, by decide, fun r hr => ?_⟩
  · simp [ip2] at hz; subst hz; exact ⟨by decide, by decide⟩
  · simp [ip2] at hr
    subst hr
    exact ⟨fun z hz => by simp at hz; subst hz; exact ⟨by decide, by decide⟩, ⟨by decide, by decide⟩, by decide, by decide⟩
theorem ip1_valid : validB ip1.pl.toP = true := by decide +kernel
theorem ip2_valid : validB ip2.pl.toP = true := by decide +kernel
theorem ip1_le {x : Nat → Rat} (h : ip1.pl.toP.Feas x) : 0 ≤ x 0 ∧ 0 ≤ x 1 ∧ x 0 + x 1 ≤ 4 ∧ dot ip1.pl.toP.n ip1.pl.toP.obj x = 3 * x 0 + 2 * x 1 := by
  have h0 := h.1 0 (by decide)
  have h1 := h.1 1 (by decide)
  have h2 := (h.2 0 (by decide)).1 rfl
  have e0 : ip1.pl.toP.coef 0 0 = 1 := by decide +kernel
  have e1 : ip1.pl.toP.coef 0 1 = 1 := by decide +kernel
  have e2 : ip1.pl.toP.right 0 = 4 := by decide +kernel
  have e3 : ip1.pl.toP.obj 0 = 3 := by decide +kernel
  have e4 : ip1.pl.toP.obj 1 = 2 := by decide +kernel
  have d1 : dot ip1.pl.toP.n (ip1.pl.toP.coef 0) x = 0 + ip1.pl.toP.coef 0 0 * x 0 + ip1.pl.toP.coef 0 1 * x 1 := rfl
  have d2 : dot ip1.pl.toP.n ip1.pl.toP.obj x = 0 + ip1.pl.toP.obj 0 * x 0 + ip1.pl.toP.obj 1 * x 1 := rfl
  rw [e0, e1] at d1
  rw [e3, e4] at d2
  rw [d1, e2] at h2
  exact ⟨h0, h1, by grind, by grind⟩
theorem ip1_sol : ∃ x y, ip1.pl.toP.sol = .opt 12 x y ∧ x 0 = 4 ∧ x 1 = 0 := by
  have hr := (validB_iff.1 ip1_valid).vrel
  have hi := Prob.is hr
  have hV : ip1.pl.toP.V 12 := by
    refine ⟨fun j => if j = 0 then 4 else 0, ⟨fun j _ => ?_, fun i hi => ?_⟩, by decide +kernel⟩
    · show (0 : Rat) ≤ if j = 0 then 4 else 0
      split <;> decide
    · have hi' : i < 2 := hi
      rcases (show i = 0 ∨ i = 1 by omega) with rfl | rfl
      · exact ⟨fun _ => by decide +kernel, fun e => absurd e (by decide), fun e => absurd e (by decide)⟩
      · exact ⟨fun _ => by decide +kernel, fun e => absurd e (by decide), fun e => absurd e (by decide)⟩
  have hle : ∀ v, ip1.pl.toP.V v → v ≤ 12 := by
    rintro v ⟨x, hx, rfl⟩
    obtain ⟨a, b, c, d⟩ := ip1_le hx
    rw [d]; grind
  obtain ⟨h1, h2⟩ := hi.opt hV hle
  have ha := Prob.sol_ans hr
  cases e : ip1.pl.toP.sol with
  | opt z x y =>
    rw [e] at h2 ha
    obtain ⟨g1, g2, -⟩ := ha
    have hz : z = 12 := h2
    obtain ⟨a, b, c, d⟩ := ip1_le g1
    rw [g2, hz] at d
    exact ⟨x, y, by rw [hz], by grind, by grind⟩
  | inf y => rw [e] at h1; cases h1
  | unb => rw [e] at h1; cases h1
theorem ip2_sol : ∃ y, ip2.pl.toP.sol = .inf y := by
  have hr := (validB_iff.1 ip2_valid).vrel
  have hi := Prob.is hr
  have hno : ∀ v, ¬ ip2.pl.toP.V v := by
    rintro v ⟨x, hx, -⟩
    have h0 := hx.1 0 (by decide)
    have h1 := hx.1 1 (by decide)
    have h2 := (hx.2 0 (by decide)).1 rfl
    have e0 : ip2.pl.toP.coef 0 0 = 1 := by decide +kernel
    have e1 : ip2.pl.toP.coef 0 1 = 1 := by decide +kernel
    have e2 : ip2.pl.toP.right 0 = -1 := by decide +kernel
    have d1 : dot ip2.pl.toP.n (ip2.pl.toP.coef 0) x = 0 + ip2.pl.toP.coef 0 0 * x 0 + ip2.pl.toP.coef 0 1 * x 1 := rfl
    rw [e0, e1] at d1
    rw [d1, e2] at h2
    grind
  obtain ⟨h1, -⟩ := hi.inf hno
  cases e : ip2.pl.toP.sol with
  | opt z x y => rw [e] at h1; cases h1
  | inf y => exact ⟨y, rfl⟩
  | unb => rw [e] at h1; cases h1
end Go.Proofs.YtljncdcjkdgkeaaDoor.Lp
