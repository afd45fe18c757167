/- Walk: the law BigintOrders. -/
import Derived.Test.YtnojllmidpdbcaaDoorQ3
set_option linter.unusedVariables false
set_option linter.unusedSimpArgs false
namespace Go.Proofs.YtnojllmidpdbcaaDoor.Big
open Go.RowKit

theorem cmpZ_sign (x y : Int) : cmpZ x y = (x - y).sign := by
  unfold cmpZ
  rcases Int.lt_trichotomy x y with h | h | h
  · rw [if_pos h, Int.sign_eq_neg_one_of_neg (by omega)]
  · subst h; simp
  · rw [if_neg (by omega), if_pos h, Int.sign_eq_one_of_pos (by omega)]
theorem cmpZ_range (x y : Int) : -1 ≤ cmpZ x y ∧ cmpZ x y ≤ 1 := by unfold cmpZ; split <;> (try split) <;> omega
theorem cmpZ_swap (x y : Int) : cmpZ x y = - cmpZ y x := by
  rw [cmpZ_sign, cmpZ_sign, ← Int.sign_neg]; congr 1; omega
theorem cmpZ_add (x y z : Int) : cmpZ (x + z) (y + z) = cmpZ x y := by rw [cmpZ_sign, cmpZ_sign]; congr 1; omega
theorem cmpZ_mul (x y z : Int) : cmpZ (x * z) (y * z) = cmpZ x y * z.sign := by
  rw [cmpZ_sign, cmpZ_sign, ← Int.sign_mul, Int.sub_mul]
theorem sign_range (x : Int) : -1 ≤ x.sign ∧ x.sign ≤ 1 := by rcases sign_cases x with ⟨_, h⟩ | ⟨_, h⟩ | ⟨_, h⟩ <;> rw [h] <;> decide
theorem mul_unit {a b : Int} (ha : -1 ≤ a ∧ a ≤ 1) (hb : -1 ≤ b ∧ b ≤ 1) : -1 ≤ a * b ∧ a * b ≤ 1 := by
  have h1 : (a * b).natAbs ≤ 1 * 1 := by rw [Int.natAbs_mul]; exact Nat.mul_le_mul (by omega) (by omega)
  omega

set_option maxRecDepth 100000 in
set_option maxHeartbeats 8000000 in
theorem orders_any (s t u : ByteArray) (w : World) (htab : TabOK w) :
    Calls Tryd.prog 11 #[.string s, .string t, .string u] w (fun e w' => e = .returned (.bool true) ∧ Ext w w') := by
  go_enter Tryd.func11, Tryd.ntmps11
  go_wp2_with fail
  refine (awake_any _ htab).mono ?_
  rintro e w1 ⟨rfl, hx1⟩
  go_wp2_with fail
  refine (two_any s t _).mono ?_
  rintro e w2 ⟨v2, v3, X, Y, rfl, hX0, hY0, hXY, hx2⟩
  obtain ⟨p2, A2, k2, c2, rfl⟩ := hX0.shape
  obtain ⟨p3, A3, k3, c3, rfl⟩ := hY0.shape
  obtain ⟨o1, ho1⟩ : ∃ o, o = (okT s && okT t) := ⟨_, rfl⟩
  rw [← ho1]
  have HXY := Lib.hid hXY
  have HO1 := Lib.hid ho1
  clear hXY ho1
  go_upto_region 4 with fail
  obtain ⟨B7, B8, hE⟩ := boxes2 w2 25 #[.bool p2, .slice A2 k2 c2] #[.bool p3, .slice A3 k3 c3]
  have hX1 := hX0.ext hE
  have hY1 := hY0.ext hE
  have hE1 := (hx1.trans hx2).trans hE
  generalize ((w2.alloc (.cells #[.bool p2, .slice A2 k2 c2] 25)).alloc (.cells #[.bool p3, .slice A3 k3 c3] 25)) = V at *
  clear hE hx1 hx2 hX0 hY0
  go_wp2_with fail
  obtain ⟨zs, hzs⟩ : ∃ zs : ByteArray, zs = zeroS := ⟨_, rfl⟩
  rw [show (⟨#[48]⟩ : ByteArray) = zs from hzs.symm]
  refine (two_any u zs _).mono ?_
  rintro e w3 ⟨v4, v5, Z, Z0, rfl, hZ0, hZ1, hZZ, hx3⟩
  obtain ⟨p4, A4, k4, c4, rfl⟩ := hZ0.shape
  obtain ⟨p5, A5, k5, c5, rfl⟩ := hZ1.shape
  obtain ⟨o2, ho2⟩ : ∃ o, o = (okT u && okT zs) := ⟨_, rfl⟩
  rw [← ho2]
  have HZZ := Lib.hid hZZ
  have HO2 := Lib.hid ho2
  have HZS := Lib.hid hzs
  clear hZZ ho2 hzs
  have B7 := B7.ext hx3
  have B8 := B8.ext hx3
  have hX1 := hX1.ext hx3
  have hY1 := hY1.ext hx3
  have hE1 := hE1.trans hx3
  go_upto_region 5 with fail
  obtain ⟨B10, B11, hE⟩ := boxes2 w3 25 #[.bool p4, .slice A4 k4 c4] #[.bool p5, .slice A5 k5 c5]
  have hX := hX1.ext hE
  have hY := hY1.ext hE
  have hZ := hZ0.ext hE
  have B7 := B7.ext hE
  have B8 := B8.ext hE
  have hE0 := hE1.trans hE
  generalize ((w3.alloc (.cells #[.bool p4, .slice A4 k4 c4] 25)).alloc (.cells #[.bool p5, .slice A5 k5 c5] 25)) = W at *
  clear hE hx3 hX1 hY1 hZ0 hZ1 hE1
  have k70 : ∀ w', Later W w' → w'.cell? ⟨w2.heap.size, 0, none⟩ = some (.bool p2) := fun w' h => (B7.ext h).c0
  have k71 : ∀ w', Later W w' → w'.cell? ⟨w2.heap.size, 1, none⟩ = some (.slice A2 k2 c2) := fun w' h => (B7.ext h).c1
  have k80 : ∀ w', Later W w' → w'.cell? ⟨w2.heap.size + 1, 0, none⟩ = some (.bool p3) := fun w' h => (B8.ext h).c0
  have k81 : ∀ w', Later W w' → w'.cell? ⟨w2.heap.size + 1, 1, none⟩ = some (.slice A3 k3 c3) := fun w' h => (B8.ext h).c1
  have k90 : ∀ w', Later W w' → w'.cell? ⟨w3.heap.size, 0, none⟩ = some (.bool p4) := fun w' h => (B10.ext h).c0
  have k91 : ∀ w', Later W w' → w'.cell? ⟨w3.heap.size, 1, none⟩ = some (.slice A4 k4 c4) := fun w' h => (B10.ext h).c1
  have hS0 := Later.refl W
  by_cases hok : o1 = true ∧ o2 = true
  case neg =>
    rcases o1 with _ | _
    · go_wp2_with fail
      go_ret
      exact ⟨rfl, hE0⟩
    · rcases o2 with _ | _
      · go_wp2_with fail
        go_ret
        exact ⟨rfl, hE0⟩
      · exact absurd ⟨rfl, rfl⟩ hok
  obtain ⟨rfl, rfl⟩ := hok
  have hos := HO1.out
  have hou := HO2.out
  simp only [Bool.true_eq, Bool.and_eq_true] at hos hou
  have bX : B 80 X := by rw [(HXY.out hos.1 hos.2).1]; exact parse_bound hos.1
  have bY : B 80 Y := by rw [(HXY.out hos.1 hos.2).2]; exact parse_bound hos.2
  have bZ : B 80 Z := by rw [(HZZ.out hou.1 hou.2).1]; exact parse_bound hou.1
  clear hos hou HXY HZZ HO1 HO2 HZS
  go_wp2_with fail
  refine (Cmp_any _ _ _ _ _ (hX.ext hS0) (hY.ext hS0)).mono ?_
  rintro e wc ⟨rfl, hxc⟩
  have hSc : Later W wc := hxc
  have hXX : BigB wc _ X 80 := ⟨hX.ext hxc, bX⟩
  have hYY : BigB wc _ Y 80 := ⟨hY.ext hxc, bY⟩
  have hZZ : BigB wc _ Z 80 := ⟨hZ.ext hxc, bZ⟩
  obtain ⟨k, hk⟩ : ∃ k, k = cmpZ X Y := ⟨_, rfl⟩
  have r := cmpZ_range X Y
  have m1 : cmpZ Y X = -k := by rw [hk, cmpZ_swap Y X]
  have m2 : (X - Y).sign = k := by rw [hk, cmpZ_sign]
  have m3 : cmpZ (X + Z) (Y + Z) = k := by rw [hk, cmpZ_add]
  have m4 : cmpZ X X = 0 := cmpZ_self X
  have m5 : cmpZ (X * Z) (Y * Z) = k * Z.sign := by rw [hk, cmpZ_mul]
  rw [← hk] at r ⊢
  have m6 : IntKind.i64.wrap k = k := IntWalk.i64_in _ (by omega)
  have r2 := mul_unit r (sign_range Z)
  have m7 : IntKind.i64.wrap (k * Z.sign) = k * Z.sign := IntWalk.i64_in _ (by omega)
  clear hk r2
  go_upto_region 8 with fail
  have hW : Ext W wc := hxc
  have K70 : ∀ w', Later wc w' → w'.cell? ⟨w2.heap.size, 0, none⟩ = some (.bool p2) := fun w' h => k70 w' (hW.trans h)
  have K71 : ∀ w', Later wc w' → w'.cell? ⟨w2.heap.size, 1, none⟩ = some (.slice A2 k2 c2) := fun w' h => k71 w' (hW.trans h)
  have K80 : ∀ w', Later wc w' → w'.cell? ⟨w2.heap.size + 1, 0, none⟩ = some (.bool p3) := fun w' h => k80 w' (hW.trans h)
  have K81 : ∀ w', Later wc w' → w'.cell? ⟨w2.heap.size + 1, 1, none⟩ = some (.slice A3 k3 c3) := fun w' h => k81 w' (hW.trans h)
  have K90 : ∀ w', Later wc w' → w'.cell? ⟨w3.heap.size, 0, none⟩ = some (.bool p4) := fun w' h => k90 w' (hW.trans h)
  have K91 : ∀ w', Later wc w' → w'.cell? ⟨w3.heap.size, 1, none⟩ = some (.slice A4 k4 c4) := fun w' h => k91 w' (hW.trans h)
  clear k70 k71 k80 k81 k90 k91
  have hS1 := Later.refl wc
  go_region_held3 (fun w' => Later wc w') ((repeat (first | assumption | apply Later.drew | apply Later.drewN | apply Later.alloc | (refine Later.step ?_ (by assumption))))) (first
      | (go_at_call 24; (with_reducible refine (Add_b _ _ _ _ _ _ _ (BigB.ext (by assumption) (by repeat (first | (with_reducible exact Ext.refl _) | (with_reducible apply Ext.drew) | (with_reducible apply Ext.drewN) | (with_reducible refine Ext.trans ?_ (by assumption))))) (BigB.ext (by assumption) (by repeat (first | (with_reducible exact Ext.refl _) | (with_reducible apply Ext.drew) | (with_reducible apply Ext.drewN) | (with_reducible refine Ext.trans ?_ (by assumption))))) (by decide)).mono ?_); rintro e wk ⟨vk, rfl, hbk, hxk⟩; (obtain ⟨pk, Ak, nk, ck, rfl⟩ := hbk.1.shape))
      | (go_at_call 28; (with_reducible refine (Sub_b _ _ _ _ _ _ _ (BigB.ext (by assumption) (by repeat (first | (with_reducible exact Ext.refl _) | (with_reducible apply Ext.drew) | (with_reducible apply Ext.drewN) | (with_reducible refine Ext.trans ?_ (by assumption))))) (BigB.ext (by assumption) (by repeat (first | (with_reducible exact Ext.refl _) | (with_reducible apply Ext.drew) | (with_reducible apply Ext.drewN) | (with_reducible refine Ext.trans ?_ (by assumption))))) (by decide)).mono ?_); rintro e wk ⟨vk, rfl, hbk, hxk⟩; (obtain ⟨pk, Ak, nk, ck, rfl⟩ := hbk.1.shape))
      | (go_at_call 23; (with_reducible refine (Mul_b _ _ _ _ _ _ _ (BigB.ext (by assumption) (by repeat (first | (with_reducible exact Ext.refl _) | (with_reducible apply Ext.drew) | (with_reducible apply Ext.drewN) | (with_reducible refine Ext.trans ?_ (by assumption))))) (BigB.ext (by assumption) (by repeat (first | (with_reducible exact Ext.refl _) | (with_reducible apply Ext.drew) | (with_reducible apply Ext.drewN) | (with_reducible refine Ext.trans ?_ (by assumption))))) (by decide)).mono ?_); rintro e wk ⟨vk, rfl, hbk, hxk⟩; (obtain ⟨pk, Ak, nk, ck, rfl⟩ := hbk.1.shape))
      | (go_at_call 27; (with_reducible refine (Neg_b _ _ _ _ (BigB.ext (by assumption) (by repeat (first | (with_reducible exact Ext.refl _) | (with_reducible apply Ext.drew) | (with_reducible apply Ext.drewN) | (with_reducible refine Ext.trans ?_ (by assumption)))))).mono ?_); rintro e wk ⟨vk, rfl, hbk, hxk⟩; (obtain ⟨pk, Ak, nk, ck, rfl⟩ := hbk.1.shape))
      | (go_at_call 25; (with_reducible refine (abs_b _ _ _ _ (BigB.ext (by assumption) (by repeat (first | (with_reducible exact Ext.refl _) | (with_reducible apply Ext.drew) | (with_reducible apply Ext.drewN) | (with_reducible refine Ext.trans ?_ (by assumption)))))).mono ?_); rintro e wk ⟨vk, rfl, hbk, hxk⟩; (obtain ⟨pk, Ak, nk, ck, rfl⟩ := hbk.1.shape))
      | (go_at_call 20; (with_reducible refine (Cmp_eqb _ _ _ _ _ _ _ (BigB.ext (by assumption) (by repeat (first | (with_reducible exact Ext.refl _) | (with_reducible apply Ext.drew) | (with_reducible apply Ext.drewN) | (with_reducible refine Ext.trans ?_ (by assumption))))) (BigB.ext (by assumption) (by repeat (first | (with_reducible exact Ext.refl _) | (with_reducible apply Ext.drew) | (with_reducible apply Ext.drewN) | (with_reducible refine Ext.trans ?_ (by assumption))))) (by first | exact Int.add_comm _ _ | exact Int.mul_comm _ _ | exact Int.add_assoc _ _ _ | exact Int.mul_assoc _ _ _ | exact Int.mul_add _ _ _ | exact Int.sub_eq_add_neg | assumption)).mono ?_); rintro e wk ⟨rfl, hxk⟩)
      | (go_at_call 20; (with_reducible refine (Cmp_b _ _ _ _ _ _ _ (BigB.ext (by assumption) (by repeat (first | (with_reducible exact Ext.refl _) | (with_reducible apply Ext.drew) | (with_reducible apply Ext.drewN) | (with_reducible refine Ext.trans ?_ (by assumption))))) (BigB.ext (by assumption) (by repeat (first | (with_reducible exact Ext.refl _) | (with_reducible apply Ext.drew) | (with_reducible apply Ext.drewN) | (with_reducible refine Ext.trans ?_ (by assumption)))))).mono ?_); rintro e wk ⟨rfl, hxk⟩)
      | (go_at_call 16; (with_reducible refine (Sign_b _ _ _ _ (BigB.ext (by assumption) (by repeat (first | (with_reducible exact Ext.refl _) | (with_reducible apply Ext.drew) | (with_reducible apply Ext.drewN) | (with_reducible refine Ext.trans ?_ (by assumption)))))).mono ?_); rintro e wk ⟨rfl, hxk⟩)
    )
  all_goals go_upto_region 10 with fail
  go_region_held3 (fun w' => Later wc w') ((repeat (first | assumption | apply Later.drew | apply Later.drewN | apply Later.alloc | (refine Later.step ?_ (by assumption))))) (first
      | (go_at_call 24; (with_reducible refine (Add_b _ _ _ _ _ _ _ (BigB.ext (by assumption) (by repeat (first | (with_reducible exact Ext.refl _) | (with_reducible apply Ext.drew) | (with_reducible apply Ext.drewN) | (with_reducible refine Ext.trans ?_ (by assumption))))) (BigB.ext (by assumption) (by repeat (first | (with_reducible exact Ext.refl _) | (with_reducible apply Ext.drew) | (with_reducible apply Ext.drewN) | (with_reducible refine Ext.trans ?_ (by assumption))))) (by decide)).mono ?_); rintro e wk ⟨vk, rfl, hbk, hxk⟩; (obtain ⟨pk, Ak, nk, ck, rfl⟩ := hbk.1.shape))
      | (go_at_call 28; (with_reducible refine (Sub_b _ _ _ _ _ _ _ (BigB.ext (by assumption) (by repeat (first | (with_reducible exact Ext.refl _) | (with_reducible apply Ext.drew) | (with_reducible apply Ext.drewN) | (with_reducible refine Ext.trans ?_ (by assumption))))) (BigB.ext (by assumption) (by repeat (first | (with_reducible exact Ext.refl _) | (with_reducible apply Ext.drew) | (with_reducible apply Ext.drewN) | (with_reducible refine Ext.trans ?_ (by assumption))))) (by decide)).mono ?_); rintro e wk ⟨vk, rfl, hbk, hxk⟩; (obtain ⟨pk, Ak, nk, ck, rfl⟩ := hbk.1.shape))
      | (go_at_call 23; (with_reducible refine (Mul_b _ _ _ _ _ _ _ (BigB.ext (by assumption) (by repeat (first | (with_reducible exact Ext.refl _) | (with_reducible apply Ext.drew) | (with_reducible apply Ext.drewN) | (with_reducible refine Ext.trans ?_ (by assumption))))) (BigB.ext (by assumption) (by repeat (first | (with_reducible exact Ext.refl _) | (with_reducible apply Ext.drew) | (with_reducible apply Ext.drewN) | (with_reducible refine Ext.trans ?_ (by assumption))))) (by decide)).mono ?_); rintro e wk ⟨vk, rfl, hbk, hxk⟩; (obtain ⟨pk, Ak, nk, ck, rfl⟩ := hbk.1.shape))
      | (go_at_call 27; (with_reducible refine (Neg_b _ _ _ _ (BigB.ext (by assumption) (by repeat (first | (with_reducible exact Ext.refl _) | (with_reducible apply Ext.drew) | (with_reducible apply Ext.drewN) | (with_reducible refine Ext.trans ?_ (by assumption)))))).mono ?_); rintro e wk ⟨vk, rfl, hbk, hxk⟩; (obtain ⟨pk, Ak, nk, ck, rfl⟩ := hbk.1.shape))
      | (go_at_call 25; (with_reducible refine (abs_b _ _ _ _ (BigB.ext (by assumption) (by repeat (first | (with_reducible exact Ext.refl _) | (with_reducible apply Ext.drew) | (with_reducible apply Ext.drewN) | (with_reducible refine Ext.trans ?_ (by assumption)))))).mono ?_); rintro e wk ⟨vk, rfl, hbk, hxk⟩; (obtain ⟨pk, Ak, nk, ck, rfl⟩ := hbk.1.shape))
      | (go_at_call 20; (with_reducible refine (Cmp_eqb _ _ _ _ _ _ _ (BigB.ext (by assumption) (by repeat (first | (with_reducible exact Ext.refl _) | (with_reducible apply Ext.drew) | (with_reducible apply Ext.drewN) | (with_reducible refine Ext.trans ?_ (by assumption))))) (BigB.ext (by assumption) (by repeat (first | (with_reducible exact Ext.refl _) | (with_reducible apply Ext.drew) | (with_reducible apply Ext.drewN) | (with_reducible refine Ext.trans ?_ (by assumption))))) (by first | exact Int.add_comm _ _ | exact Int.mul_comm _ _ | exact Int.add_assoc _ _ _ | exact Int.mul_assoc _ _ _ | exact Int.mul_add _ _ _ | exact Int.sub_eq_add_neg | assumption)).mono ?_); rintro e wk ⟨rfl, hxk⟩)
      | (go_at_call 20; (with_reducible refine (Cmp_b _ _ _ _ _ _ _ (BigB.ext (by assumption) (by repeat (first | (with_reducible exact Ext.refl _) | (with_reducible apply Ext.drew) | (with_reducible apply Ext.drewN) | (with_reducible refine Ext.trans ?_ (by assumption))))) (BigB.ext (by assumption) (by repeat (first | (with_reducible exact Ext.refl _) | (with_reducible apply Ext.drew) | (with_reducible apply Ext.drewN) | (with_reducible refine Ext.trans ?_ (by assumption)))))).mono ?_); rintro e wk ⟨rfl, hxk⟩)
      | (go_at_call 16; (with_reducible refine (Sign_b _ _ _ _ (BigB.ext (by assumption) (by repeat (first | (with_reducible exact Ext.refl _) | (with_reducible apply Ext.drew) | (with_reducible apply Ext.drewN) | (with_reducible refine Ext.trans ?_ (by assumption)))))).mono ?_); rintro e wk ⟨rfl, hxk⟩)
    )
  all_goals go_wp2_with fail
  all_goals go_ret
  all_goals exact ⟨rfl, (hE0.trans hxc).trans (show Later wc _ by first | assumption | (apply Later.drew; assumption) | (apply Later.drewN; assumption))⟩
end Go.Proofs.YtnojllmidpdbcaaDoor.Big
