/- Walks: same; equal lists (the closure of LpValues); two answers for the same problem. -/
import Derived.Test.YtgffcblldebelaaDoorLW0
set_option linter.unusedVariables false
set_option linter.unusedSimpArgs false
namespace Go.Proofs.YtgffcblldebelaaDoor.Lp
open Go.RowKit Go.Proofs.YtgffcblldebelaaDoor.Big Go.Proofs.YtgffcblldebelaaDoor.Rt

theorem Res.same {p : Prob} {k k' : Int} {z z' : Rat} {nx nx' ny ny' : Nat} {xs xs' ys ys' : Nat → Rat} (h : Res p k z nx xs ny ys) (h' : Res p k' z' nx' xs' ny' ys') :
    k = k' ∧ z = z' ∧ nx = nx' ∧ ny = ny' ∧ (∀ j, j < nx → xs j = xs' j) ∧ (∀ j, j < ny → ys j = ys' j) := by
  rcases h with ⟨a, rfl, rfl, rfl, rfl⟩ | ⟨a, b, c, d⟩
  · rcases h' with ⟨_, rfl, rfl, rfl, rfl⟩ | ⟨a', _⟩
    · exact ⟨rfl, rfl, rfl, rfl, fun j hj => absurd hj (by omega), fun j hj => absurd hj (by omega)⟩
    · rw [a] at a'; cases a'
  · rcases h' with ⟨a', _⟩ | ⟨_, b', c', d'⟩
    · rw [a] at a'; cases a'
    · have hk : k = k' := b.trans b'.symm
      refine ⟨hk, c.trans c'.symm, ?_⟩
      rcases d with ⟨d0, rfl, rfl, d3⟩ | ⟨d0, rfl, rfl⟩
      · rcases d' with ⟨_, rfl, rfl, d3'⟩ | ⟨d0', _⟩
        · rw [d3] at d3'
          injection d3' with e1 e2 e3
          subst e2 e3
          exact ⟨rfl, rfl, fun _ _ => rfl, fun _ _ => rfl⟩
        · exact absurd (hk.symm.trans d0) d0'
      · rcases d' with ⟨d0', _⟩ | ⟨_, rfl, rfl⟩
        · exact absurd (hk.trans d0') d0
        · exact ⟨rfl, rfl, fun j hj => absurd hj (by omega), fun j hj => absurd hj (by omega)⟩
/-- a solution as a value -/
def SolV (w : World) (v : Value) (z : Rat) (K : Nat) : Prop :=
  ∃ q A n c q' A' n' c' Ax nx cx Ay ny cy, v = .agg #[.bool q, .slice A n c, .bool q', .slice A' n' c', .slice Ax nx cx, .slice Ay ny cy] ∧ RatB w (.agg #[.bool q, .slice A n c, .bool q', .slice A' n' c']) z K
theorem SolV.ext {w w' : World} {v : Value} {z : Rat} {K : Nat} (h : SolV w v z K) (x : Ext w w') : SolV w' v z K := by
  obtain ⟨q, A, n, c, q', A', n', c', Ax, nx, cx, Ay, ny, cy, e, hr⟩ := h
  exact ⟨q, A, n, c, q', A', n', c', Ax, nx, cx, Ay, ny, cy, e, hr.ext x⟩
theorem cmp_zero (x y : Rat) : (cmpQ x y == 0) = decide (x = y) := by
  by_cases h : x = y
  · rw [decide_eq_true h, (cmpQ_eq x y).2 h]; rfl
  · rw [decide_eq_false h]
    have := mt (cmpQ_eq x y).1 h
    simpa using this
set_option maxHeartbeats 4000000 in
theorem same_b (v v' : Value) (k k' : Int) (z z' : Rat) (K : Nat) (w : World) (h : SolV w v z K) (h' : SolV w v' z' K) (hK : K ≤ 137438953472) :
    Calls Tryd.prog 31 #[v, .int .i64 k, v', .int .i64 k'] w (ValPost w (.bool ((k == k') && decide (z = z')))) := by
  obtain ⟨q, A, n, c, q', A', n', c', Ax, nx, cx, Ay, ny, cy, rfl, hr⟩ := h
  obtain ⟨s, D, m, d, s', D', m', d', Dx, mx, dx, Dy, my, dy, rfl, hr'⟩ := h'
  obtain ⟨F, hF⟩ : ∃ F, F = decide (z = z') := ⟨_, rfl⟩
  rw [← hF]
  have HF : Hid ((cmpQ z z' == 0) = F) := Lib.hid (by rw [hF]; exact cmp_zero z z')
  clear hF
  obtain ⟨B0, B1, hE0⟩ := boxesT2 w 39 39 #[.bool q, .slice A n c, .bool q', .slice A' n' c', .slice Ax nx cx, .slice Ay ny cy] #[.bool s, .slice D m d, .bool s', .slice D' m' d', .slice Dx mx dx, .slice Dy my dy]
  go_enter Tryd.func31, Tryd.ntmps31
  go_upto_region 1 with fail
  generalize ((w.alloc (.cells #[.bool q, .slice A n c, .bool q', .slice A' n' c', .slice Ax nx cx, .slice Ay ny cy] 39)).alloc (.cells #[.bool s, .slice D m d, .bool s', .slice D' m' d', .slice Dx mx dx, .slice Dy my dy] 39)) = V at *
  have hr := hr.ext hE0
  have hr' := hr'.ext hE0
  have c0 := B0.c0
  have c1 := B0.c1
  have c2 := B0.c2
  have c3 := B0.c3
  have d0 := B1.c0
  have d1 := B1.c1
  have d2 := B1.c2
  have d3 := B1.c3
  by_cases hk : k = k'
  · subst hk
    have e1 : (k == k) = true := by simp
    rw [e1]
    go_wp2_with fail
    refine (RatCmp_b _ _ _ _ _ _ _ hr hr' (by omega)).mono ?_
    rintro e w1 ⟨rfl, hx1⟩
    have hf := HF.out
    obtain ⟨cq, hcq⟩ : ∃ c, c = cmpQ z z' := ⟨_, rfl⟩
    rw [← hcq] at hf ⊢
    clear hcq
    go_wp2_with fail
    go_ret
    exact ⟨by simp, hE0.trans hx1⟩
  · have e1 : (k == k') = false := by simpa using hk
    rw [e1]
    go_wp2_with fail
    go_ret
    exact ⟨by simp [hk], hE0⟩
set_option maxHeartbeats 4000000 in
theorem equal_ok (A A' : Option Addr) (n c c' : Nat) (f g : Nat → Rat) (K : Nat) (w : World) (hf : RatsV w A n c f) (hg : RatsV w A' n c' g) (hfb : ∀ j, j < n → QB K (f j)) (he : ∀ j, j < n → f j = g j) (hK : K ≤ 137438953472) :
    Calls Tryd.prog 35 #[.slice A n c, .slice A' n c'] w (ValPost w (.bool true)) := by
  have HFB := Lib.hid hfb
  have HE := Lib.hid he
  have hc := hf.1
  have hc' := hg.1
  have hc2 := hf.2.1
  clear hfb he
  go_enter Tryd.func35, Tryd.ntmps35
  have e0 : ((n : Int) != (n : Int)) = false := by simp
  go_wp2_with fail
  go_loopw [13] (fun i wr => ∃ j : Nat, j ≤ n ∧ i = .int .i64 j ∧ Ext w wr) (fun i _ => n - (intOf i).toNat)
  case atStart => exact ⟨0, by omega, rfl, Ext.refl w⟩
  case round =>
    obtain ⟨j, hj, rfl, hx⟩ := hrel
    by_cases hlt : j < n
    · obtain ⟨b, rfl, hR⟩ := hf.2.2 (by omega)
      obtain ⟨b', rfl, hR'⟩ := hg.2.2 (by omega)
      obtain ⟨p3, A3, m3, c3, p3', A3', m3', c3', a0, a1, a2, a3, hr3⟩ := (hR.ext hx).at hlt
      obtain ⟨p4, A4, m4, c4, p4', A4', m4', c4', g0, g1, g2, g3, hr4⟩ := (hR'.ext hx).at hlt
      have hB3 : RatB wr _ (f j) K := ⟨hr3, HFB.out j hlt⟩
      rw [← HE.out j hlt] at hr4
      have hB4 : RatB wr _ (f j) K := ⟨hr4, HFB.out j hlt⟩
      go_upto_region 6 with fail
      have k0 : ∀ w', Later wr w' → w'.cell? ⟨b, j * 4, none⟩ = some _ := fun w' h => Later.cell h a0
      have k1 : ∀ w', Later wr w' → w'.cell? ⟨b, j * 4 + 1, none⟩ = some _ := fun w' h => Later.cell h a1
      have k2 : ∀ w', Later wr w' → w'.cell? ⟨b, j * 4 + 2, none⟩ = some _ := fun w' h => Later.cell h a2
      have k3 : ∀ w', Later wr w' → w'.cell? ⟨b, j * 4 + 3, none⟩ = some _ := fun w' h => Later.cell h a3
      have l0 : ∀ w', Later wr w' → w'.cell? ⟨b', j * 4, none⟩ = some _ := fun w' h => Later.cell h g0
      have l1 : ∀ w', Later wr w' → w'.cell? ⟨b', j * 4 + 1, none⟩ = some _ := fun w' h => Later.cell h g1
      have l2 : ∀ w', Later wr w' → w'.cell? ⟨b', j * 4 + 2, none⟩ = some _ := fun w' h => Later.cell h g2
      have l3 : ∀ w', Later wr w' → w'.cell? ⟨b', j * 4 + 3, none⟩ = some _ := fun w' h => Later.cell h g3
      have ks := Later.refl wr
      have i1 : (0 : Int) ≤ (j : Int) := by omega
      have i2 : (j : Int) < (n : Int) := by omega
      clear a0 a1 a2 a3 g0 g1 g2 g3 hr3 hr4
      go_region_held3 (fun w' => Later wr w') ((repeat (first | assumption | apply Later.drew | apply Later.drewN | apply Later.alloc | (refine Later.step ?_ (by assumption))))) (first
        | (go_at_call 28; (with_reducible refine (RatCmp_b _ _ _ _ _ _ _ (RatB.ext hB3 (by repeat (first | (with_reducible exact Ext.refl _) | (with_reducible apply Ext.drew) | (with_reducible apply Ext.drewN) | (with_reducible refine Ext.trans ?_ (by assumption))))) (RatB.ext hB4 (by repeat (first | (with_reducible exact Ext.refl _) | (with_reducible apply Ext.drew) | (with_reducible apply Ext.drewN) | (with_reducible refine Ext.trans ?_ (by assumption))))) (by omega)).mono ?_); rintro e wk ⟨rfl, hxk⟩; rw [cmpQ_self])
        )
      all_goals (
        have hxk2 : Ext wr wk := by assumption
        have hxx := hx.trans hxk2
        go_wp2_with fail
        go_roundw
        case rel => exact ⟨j + 1, by omega, by go_num, hxx⟩
        case measure => simp [intOf]; omega)
    · obtain rfl : j = n := by omega
      go_wp2_with fail
      go_ret
      exact ⟨rfl, hx⟩
end Go.Proofs.YtgffcblldebelaaDoor.Lp
