/- Walk: the law RationalOrders. -/
import Derived.Test.YteohdiaegnfbaaaDoorT10
set_option linter.unusedVariables false
set_option linter.unusedSimpArgs false
namespace Go.Proofs.YteohdiaegnfbaaaDoor.Rt
open Go.RowKit Go.Proofs.YteohdiaegnfbaaaDoor.Big
open Go.Lib (itoa)

theorem ratText_inj {x y : Rat} (h : ratText x = ratText y) : x = y := by
  unfold ratText at h
  by_cases hx : x.den = 1
  · by_cases hy : y.den = 1
    · rw [if_pos hx, if_pos hy] at h
      exact Rat.ext (itoa_inj h) (hx.trans hy.symm)
    · rw [if_pos hx, if_neg hy] at h
      exact absurd (by rw [h]; simp) (itoa_slash x.num)
  · by_cases hy : y.den = 1
    · rw [if_neg hx, if_pos hy] at h
      exact absurd (by rw [← h]; simp) (itoa_slash y.num)
    · rw [if_neg hx, if_neg hy] at h
      obtain ⟨a, b⟩ := split_uniq (itoa_slash _) (itoa_slash _) h
      have := itoa_inj b
      exact Rat.ext (itoa_inj a) (by omega)
theorem cmpQ_range (x y : Rat) : -1 ≤ cmpQ x y ∧ cmpQ x y ≤ 1 := by unfold cmpQ; split <;> (try split) <;> omega
theorem sgn_range (x : Int) : -1 ≤ x.sign ∧ x.sign ≤ 1 := by rcases sign_cases x with ⟨_, h⟩ | ⟨_, h⟩ | ⟨_, h⟩ <;> rw [h] <;> decide
theorem mul_unit {a b : Int} (ha : -1 ≤ a ∧ a ≤ 1) (hb : -1 ≤ b ∧ b ≤ 1) : -1 ≤ a * b ∧ a * b ≤ 1 := by
  have h1 : (a * b).natAbs ≤ 1 * 1 := by rw [Int.natAbs_mul]; exact Nat.mul_le_mul (by omega) (by omega)
  omega
theorem cmpQ_trans {x y z : Rat} (h1 : cmpQ x y ≤ 0) (h2 : cmpQ y z ≤ 0) : cmpQ x z ≤ 0 := by
  have key : ∀ a b : Rat, cmpQ a b ≤ 0 ↔ a ≤ b := by
    intro a b
    rcases cmpQ_cases a b with ⟨h, e⟩ | ⟨h, e⟩ | ⟨h, e⟩ <;> rw [e]
    · exact ⟨fun _ => Rat.le_of_lt h, fun _ => by decide⟩
    · exact ⟨fun _ => by rw [h]; exact Rat.le_refl, fun _ => by decide⟩
    · exact ⟨fun h' => absurd h' (by decide), fun h' => absurd h' (Rat.not_le.2 h)⟩
  rw [key] at *
  exact Rat.le_trans h1 h2
theorem toList_eq (l : List UInt8) : (⟨l.toArray⟩ : ByteArray).toList = l := by rw [Lib.toList_data]

set_option maxRecDepth 100000 in
set_option maxHeartbeats 16000000 in
theorem orders_any (s t u : ByteArray) (w : World) (htab : TabOK w) (hmx : MxOK w) :
    Calls Tryd.prog 7 #[.string s, .string t, .string u] w (fun e w' => e = .returned (.bool true) ∧ Ext w w') := by
  go_enter Tryd.func7, Tryd.ntmps7
  go_wp2_with fail
  refine (RatAwake_any _ htab hmx).mono ?_
  rintro e w1 ⟨rfl, hx1⟩
  go_wp2_with fail
  refine (long_any s _).mono ?_
  rintro e w' ⟨rfl, rfl⟩
  obtain ⟨bl, hbl⟩ : ∃ b, b = decide ((200 : Int) < s.size) := ⟨_, rfl⟩
  rw [← hbl]
  have HBL := Lib.hid hbl
  clear hbl
  cases bl
  case true =>
    go_wp2_with fail
    go_ret
    exact ⟨rfl, hx1⟩
  have ns : s.size ≤ 200 := by have := HBL.out; simp at this; omega
  clear HBL
  go_wp2_with fail
  refine (long_any t _).mono ?_
  rintro e w' ⟨rfl, rfl⟩
  obtain ⟨bl, hbl⟩ : ∃ b, b = decide ((200 : Int) < t.size) := ⟨_, rfl⟩
  rw [← hbl]
  have HBL := Lib.hid hbl
  clear hbl
  cases bl
  case true =>
    go_wp2_with fail
    go_ret
    exact ⟨rfl, hx1⟩
  have nt : t.size ≤ 200 := by have := HBL.out; simp at this; omega
  clear HBL
  go_wp2_with fail
  refine (long_any u _).mono ?_
  rintro e w' ⟨rfl, rfl⟩
  obtain ⟨bl, hbl⟩ : ∃ b, b = decide ((200 : Int) < u.size) := ⟨_, rfl⟩
  rw [← hbl]
  have HBL := Lib.hid hbl
  clear hbl
  cases bl
  case true =>
    go_wp2_with fail
    go_ret
    exact ⟨rfl, hx1⟩
  have nu : u.size ≤ 200 := by have := HBL.out; simp at this; omega
  clear HBL
  go_wp2_with fail
  refine (RatTwo_any s t 200 _ (by omega) (by omega) (by omega) (by omega) (by decide) (by decide) (hmx.ext hx1)).mono ?_
  rintro e w2 ⟨v2, v3, X, Y, rfl, hX0, hY0, hXv, hYv, hx2⟩
  obtain ⟨p2, A2, k2, c2, p2', A2', k2', c2', rfl⟩ := hX0.1.shape
  obtain ⟨p3, A3, k3, c3, p3', A3', k3', c3', rfl⟩ := hY0.1.shape
  obtain ⟨o1, ho1⟩ : ∃ o, o = (isRat s.data.toList && isRat t.data.toList) := ⟨_, rfl⟩
  rw [← ho1]
  have HO1 := Lib.hid ho1
  have HXV := Lib.hid hXv
  have HYV := Lib.hid hYv
  clear ho1 hXv hYv
  go_upto_region 6 with fail
  obtain ⟨B7, B8, hE⟩ := boxesT2 w2 29 29 #[.bool p2, .slice A2 k2 c2, .bool p2', .slice A2' k2' c2'] #[.bool p3, .slice A3 k3 c3, .bool p3', .slice A3' k3' c3']
  have hX1 := hX0.ext hE
  have hY1 := hY0.ext hE
  have hE1 := (hx1.trans hx2).trans hE
  generalize ((w2.alloc (.cells #[.bool p2, .slice A2 k2 c2, .bool p2', .slice A2' k2' c2'] 29)).alloc (.cells #[.bool p3, .slice A3 k3 c3, .bool p3', .slice A3' k3' c3'] 29)) = V at *
  clear hE hx1 hx2 hX0 hY0
  go_wp2_with fail
  refine (RatParse_b u 200 _ (by omega) (by omega) (by decide) (by decide) (hmx.ext hE1)).mono ?_
  rintro e w3 ⟨v4, Z, rfl, hZ0, hZv, hx3⟩
  obtain ⟨p4, A4, k4, c4, p4', A4', k4', c4', rfl⟩ := hZ0.1.shape
  obtain ⟨o2, ho2⟩ : ∃ o, o = isRat u.data.toList := ⟨_, rfl⟩
  obtain ⟨es, hes⟩ : ∃ es : Int, es = (if isRat u.data.toList = true then 0 else 3) := ⟨_, rfl⟩
  rw [← hes]
  rw [← ho2] at hes hZv
  have hde : (es != 0) = !o2 := by rw [hes]; cases o2 <;> rfl
  have HO2 := Lib.hid ho2
  have HZV := Lib.hid hZv
  clear ho2 hZv hes
  have B7 := B7.ext hx3
  have B8 := B8.ext hx3
  have hX1 := hX1.ext hx3
  have hY1 := hY1.ext hx3
  have hE1 := hE1.trans hx3
  go_upto_region 7 with fail
  have hE : Ext w3 (w3.alloc (.cells #[.bool p4, .slice A4 k4 c4, .bool p4', .slice A4' k4' c4'] 29)) := (Ext.refl w3).alloc _
  have B9 := Box.new w3 29 #[.bool p4, .slice A4 k4 c4, .bool p4', .slice A4' k4' c4']
  have hX := hX1.ext hE
  have hY := hY1.ext hE
  have hZ := hZ0.ext hE
  have B7 := B7.ext hE
  have B8 := B8.ext hE
  have hE0 := hE1.trans hE
  generalize (w3.alloc (.cells #[.bool p4, .slice A4 k4 c4, .bool p4', .slice A4' k4' c4'] 29)) = W at *
  clear hE hx3 hX1 hY1 hZ0 hE1
  cases o1
  case false =>
    go_wp2_with fail
    go_ret
    exact ⟨rfl, hE0⟩
  cases o2
  case false =>
    go_wp2_with fail
    go_ret
    exact ⟨rfl, hE0⟩
  have hTab := htab.ext hE0
  have k70 : ∀ w', Later W w' → w'.cell? ⟨_, 0, none⟩ = some _ := fun w' h => (B7.ext h).c0
  have k71 : ∀ w', Later W w' → w'.cell? ⟨_, 1, none⟩ = some _ := fun w' h => (B7.ext h).c1
  have k72 : ∀ w', Later W w' → w'.cell? ⟨_, 2, none⟩ = some _ := fun w' h => (B7.ext h).c2
  have k73 : ∀ w', Later W w' → w'.cell? ⟨_, 3, none⟩ = some _ := fun w' h => (B7.ext h).c3
  have k80 : ∀ w', Later W w' → w'.cell? ⟨_, 0, none⟩ = some _ := fun w' h => (B8.ext h).c0
  have k81 : ∀ w', Later W w' → w'.cell? ⟨_, 1, none⟩ = some _ := fun w' h => (B8.ext h).c1
  have k82 : ∀ w', Later W w' → w'.cell? ⟨_, 2, none⟩ = some _ := fun w' h => (B8.ext h).c2
  have k83 : ∀ w', Later W w' → w'.cell? ⟨_, 3, none⟩ = some _ := fun w' h => (B8.ext h).c3
  have k90 : ∀ w', Later W w' → w'.cell? ⟨_, 0, none⟩ = some _ := fun w' h => (B9.ext h).c0
  have k91 : ∀ w', Later W w' → w'.cell? ⟨_, 1, none⟩ = some _ := fun w' h => (B9.ext h).c1
  have k92 : ∀ w', Later W w' → w'.cell? ⟨_, 2, none⟩ = some _ := fun w' h => (B9.ext h).c2
  have k93 : ∀ w', Later W w' → w'.cell? ⟨_, 3, none⟩ = some _ := fun w' h => (B9.ext h).c3
  have hS0 := Later.refl W
  go_wp2_with fail
  obtain ⟨k, hk⟩ : ∃ k, k = cmpQ X Y := ⟨_, rfl⟩
  have r := cmpQ_range X Y
  have n0 : cmpQ X Y = k := hk.symm
  have m1 : cmpQ Y X = -k := by rw [hk, cmpQ_swap Y X]
  have m2 : (X - Y).num.sign = k := by rw [hk, cmpQ_sub]
  have m3 : cmpQ (X + Z) (Y + Z) = k := by rw [hk, cmpQ_add]
  have m5 : cmpQ (X * Z) (Y * Z) = k * Z.num.sign := by rw [hk, cmpQ_mul]
  rw [← hk] at r
  have m6 : IntKind.i64.wrap k = k := IntWalk.i64_in _ (by omega)
  have r2 := mul_unit r (sgn_range Z.num)
  have m7 : IntKind.i64.wrap (k * Z.num.sign) = k * Z.num.sign := IntWalk.i64_in _ (by omega)
  obtain ⟨SX, hSX⟩ : ∃ S : ByteArray, S = ⟨(ratText X).toArray⟩ := ⟨_, rfl⟩
  obtain ⟨SY, hSY⟩ : ∃ S : ByteArray, S = ⟨(ratText Y).toArray⟩ := ⟨_, rfl⟩
  obtain ⟨bk, hbk⟩ : ∃ b, b = (k == 0) := ⟨_, rfl⟩
  have m8 : (SX.toList == SY.toList) = bk := by
    rw [hbk, hSX, hSY, toList_eq, toList_eq, hk]
    by_cases he : X = Y
    · rw [he, cmpQ_self]; simp
    · have h1 : ¬ cmpQ X Y = 0 := mt (cmpQ_eq X Y).1 he
      have h2 : ¬ ratText X = ratText Y := mt ratText_inj he
      rw [beq_eq_false_iff_ne.2 h1, beq_eq_false_iff_ne.2 h2]
  have m9 : (k == 0) = bk := hbk.symm
  have HSX := Lib.hid hSX
  have HSY := Lib.hid hSY
  have HTR := Lib.hid (show cmpQ X Y ≤ 0 → cmpQ Y Z ≤ 0 → cmpQ X Z ≤ 0 from cmpQ_trans)
  have HK := Lib.hid hk
  clear hk r2 hSX hSY hbk
  go_upto_region 9 with fail
  go_region_held3 (fun w' => Later W w') ((repeat (first | assumption | apply Later.drew | apply Later.drewN | apply Later.alloc | (refine Later.step ?_ (by assumption))))) (first
      | (go_at_call 14; (with_reducible refine (RatText_n _ _ _ _ SX HSX.out (hX.ext (by repeat (first | (with_reducible exact Ext.refl _) | (with_reducible apply Ext.drew) | (with_reducible apply Ext.drewN) | (with_reducible refine Ext.trans ?_ (by assumption))))) (by decide) (TabOK.ext hTab (by repeat (first | (with_reducible exact Ext.refl _) | (with_reducible apply Ext.drew) | (with_reducible apply Ext.drewN) | (with_reducible refine Ext.trans ?_ (by assumption)))))).mono ?_); rintro e wk ⟨rfl, hxk⟩)
      | (go_at_call 14; (with_reducible refine (RatText_n _ _ _ _ SY HSY.out (hY.ext (by repeat (first | (with_reducible exact Ext.refl _) | (with_reducible apply Ext.drew) | (with_reducible apply Ext.drewN) | (with_reducible refine Ext.trans ?_ (by assumption))))) (by decide) (TabOK.ext hTab (by repeat (first | (with_reducible exact Ext.refl _) | (with_reducible apply Ext.drew) | (with_reducible apply Ext.drewN) | (with_reducible refine Ext.trans ?_ (by assumption)))))).mono ?_); rintro e wk ⟨rfl, hxk⟩)
      | (go_at_call 41; (with_reducible refine (RatAdd_b _ _ _ _ _ _ _ (RatB.ext (by assumption) (by repeat (first | (with_reducible exact Ext.refl _) | (with_reducible apply Ext.drew) | (with_reducible apply Ext.drewN) | (with_reducible refine Ext.trans ?_ (by assumption))))) (RatB.ext (by assumption) (by repeat (first | (with_reducible exact Ext.refl _) | (with_reducible apply Ext.drew) | (with_reducible apply Ext.drewN) | (with_reducible refine Ext.trans ?_ (by assumption))))) (by decide)).mono ?_); rintro e wk ⟨vk, rfl, hbk, hxk⟩; (obtain ⟨pk, Ak, nk, ck, pk', Ak', nk', ck', rfl⟩ := hbk.1.shape))
      | (go_at_call 38; (with_reducible refine (RatSub_b _ _ _ _ _ _ _ (RatB.ext (by assumption) (by repeat (first | (with_reducible exact Ext.refl _) | (with_reducible apply Ext.drew) | (with_reducible apply Ext.drewN) | (with_reducible refine Ext.trans ?_ (by assumption))))) (RatB.ext (by assumption) (by repeat (first | (with_reducible exact Ext.refl _) | (with_reducible apply Ext.drew) | (with_reducible apply Ext.drewN) | (with_reducible refine Ext.trans ?_ (by assumption))))) (by decide)).mono ?_); rintro e wk ⟨vk, rfl, hbk, hxk⟩; (obtain ⟨pk, Ak, nk, ck, pk', Ak', nk', ck', rfl⟩ := hbk.1.shape))
      | (go_at_call 42; (with_reducible refine (RatMul_b _ _ _ _ _ _ _ (RatB.ext (by assumption) (by repeat (first | (with_reducible exact Ext.refl _) | (with_reducible apply Ext.drew) | (with_reducible apply Ext.drewN) | (with_reducible refine Ext.trans ?_ (by assumption))))) (RatB.ext (by assumption) (by repeat (first | (with_reducible exact Ext.refl _) | (with_reducible apply Ext.drew) | (with_reducible apply Ext.drewN) | (with_reducible refine Ext.trans ?_ (by assumption))))) (by decide)).mono ?_); rintro e wk ⟨vk, rfl, hbk, hxk⟩; (obtain ⟨pk, Ak, nk, ck, pk', Ak', nk', ck', rfl⟩ := hbk.1.shape))
      | (go_at_call 36; (with_reducible refine (RatNeg_b _ _ _ _ (RatB.ext (by assumption) (by repeat (first | (with_reducible exact Ext.refl _) | (with_reducible apply Ext.drew) | (with_reducible apply Ext.drewN) | (with_reducible refine Ext.trans ?_ (by assumption)))))).mono ?_); rintro e wk ⟨vk, rfl, hbk, hxk⟩; (obtain ⟨pk, Ak, nk, ck, pk', Ak', nk', ck', rfl⟩ := hbk.1.shape))
      | (go_at_call 35; (with_reducible refine (RatCmp_b _ _ _ _ _ _ _ (RatB.ext (by assumption) (by repeat (first | (with_reducible exact Ext.refl _) | (with_reducible apply Ext.drew) | (with_reducible apply Ext.drewN) | (with_reducible refine Ext.trans ?_ (by assumption))))) (RatB.ext (by assumption) (by repeat (first | (with_reducible exact Ext.refl _) | (with_reducible apply Ext.drew) | (with_reducible apply Ext.drewN) | (with_reducible refine Ext.trans ?_ (by assumption))))) (by decide)).mono ?_); rintro e wk ⟨rfl, hxk⟩)
      | (go_at_call 13; (with_reducible refine (RatSign_b _ _ _ _ (RatB.ext (by assumption) (by repeat (first | (with_reducible exact Ext.refl _) | (with_reducible apply Ext.drew) | (with_reducible apply Ext.drewN) | (with_reducible refine Ext.trans ?_ (by assumption)))))).mono ?_); rintro e wk ⟨rfl, hxk⟩)
      | (go_at_call 39; (with_reducible refine (RatOf_b _ _ (by first | assumption | decide) (by first | assumption | decide)).mono ?_); rintro e wk ⟨vk, rfl, hbk, hxk⟩; (obtain ⟨pk, Ak, nk, ck, pk', Ak', nk', ck', rfl⟩ := hbk.1.shape))
    )
  have hM : Ext W wk := (show Later W wk by assumption)
  obtain ⟨b1, hb1⟩ : ∃ b, b = decide (k ≤ 0) := ⟨_, rfl⟩
  have e1 : decide (k ≤ 0) = b1 := hb1.symm
  obtain ⟨k', hk'⟩ : ∃ k, k = cmpQ Y Z := ⟨_, rfl⟩
  obtain ⟨k'', hk''⟩ : ∃ k, k = cmpQ X Z := ⟨_, rfl⟩
  obtain ⟨b2, hb2⟩ : ∃ b, b = decide (k' ≤ 0) := ⟨_, rfl⟩
  obtain ⟨b3, hb3⟩ : ∃ b, b = decide (0 < k'') := ⟨_, rfl⟩
  have e2 : decide (k' ≤ 0) = b2 := hb2.symm
  have e3 : decide (0 < k'') = b3 := hb3.symm
  have h123 : b1 = true → b2 = true → b3 = false := by
    intro h1 h2
    rw [hb3]; rw [hb1] at h1; rw [hb2] at h2
    simp only [decide_eq_true_eq] at h1 h2
    have := HTR.out (by rw [← HK.out]; exact h1) (by rw [← hk']; exact h2)
    rw [← hk''] at this
    simp; omega
  have HK' := Lib.hid hk'
  have HK'' := Lib.hid hk''
  have H123 := Lib.hid h123
  clear hb1 hb2 hb3 hk' hk'' h123
  go_upto_region 11 with fail
  go_wp2_with fail
  refine (RatCmp_b _ _ X Y 200 200 _ (hX.ext (show Ext W _ by assumption)) (hY.ext (show Ext W _ by assumption)) (by decide)).mono ?_
  rintro e wa ⟨rfl, hxa⟩
  have hLa : Later W wa := Later.step (by assumption) hxa
  have hMa : Ext W wa := hLa
  rw [← HK.out]
  cases b1
  case false =>
    go_upto_region 13 with fail
    go_region_held3 (fun w' => Later W w') ((repeat (first | assumption | apply Later.drew | apply Later.drewN | apply Later.alloc | (refine Later.step ?_ (by assumption))))) (first
        | (go_at_call 41; (with_reducible refine (RatAdd_b _ _ _ _ _ _ _ (RatB.ext (by assumption) (by repeat (first | (with_reducible exact Ext.refl _) | (with_reducible apply Ext.drew) | (with_reducible apply Ext.drewN) | (with_reducible refine Ext.trans ?_ (by assumption))))) (RatB.ext (by assumption) (by repeat (first | (with_reducible exact Ext.refl _) | (with_reducible apply Ext.drew) | (with_reducible apply Ext.drewN) | (with_reducible refine Ext.trans ?_ (by assumption))))) (by decide)).mono ?_); rintro e wk ⟨vk, rfl, hbk, hxk⟩; (obtain ⟨pk, Ak, nk, ck, pk', Ak', nk', ck', rfl⟩ := hbk.1.shape))
        | (go_at_call 38; (with_reducible refine (RatSub_b _ _ _ _ _ _ _ (RatB.ext (by assumption) (by repeat (first | (with_reducible exact Ext.refl _) | (with_reducible apply Ext.drew) | (with_reducible apply Ext.drewN) | (with_reducible refine Ext.trans ?_ (by assumption))))) (RatB.ext (by assumption) (by repeat (first | (with_reducible exact Ext.refl _) | (with_reducible apply Ext.drew) | (with_reducible apply Ext.drewN) | (with_reducible refine Ext.trans ?_ (by assumption))))) (by decide)).mono ?_); rintro e wk ⟨vk, rfl, hbk, hxk⟩; (obtain ⟨pk, Ak, nk, ck, pk', Ak', nk', ck', rfl⟩ := hbk.1.shape))
        | (go_at_call 42; (with_reducible refine (RatMul_b _ _ _ _ _ _ _ (RatB.ext (by assumption) (by repeat (first | (with_reducible exact Ext.refl _) | (with_reducible apply Ext.drew) | (with_reducible apply Ext.drewN) | (with_reducible refine Ext.trans ?_ (by assumption))))) (RatB.ext (by assumption) (by repeat (first | (with_reducible exact Ext.refl _) | (with_reducible apply Ext.drew) | (with_reducible apply Ext.drewN) | (with_reducible refine Ext.trans ?_ (by assumption))))) (by decide)).mono ?_); rintro e wk ⟨vk, rfl, hbk, hxk⟩; (obtain ⟨pk, Ak, nk, ck, pk', Ak', nk', ck', rfl⟩ := hbk.1.shape))
        | (go_at_call 36; (with_reducible refine (RatNeg_b _ _ _ _ (RatB.ext (by assumption) (by repeat (first | (with_reducible exact Ext.refl _) | (with_reducible apply Ext.drew) | (with_reducible apply Ext.drewN) | (with_reducible refine Ext.trans ?_ (by assumption)))))).mono ?_); rintro e wk ⟨vk, rfl, hbk, hxk⟩; (obtain ⟨pk, Ak, nk, ck, pk', Ak', nk', ck', rfl⟩ := hbk.1.shape))
        | (go_at_call 35; (with_reducible refine (RatCmp_b _ _ _ _ _ _ _ (RatB.ext (by assumption) (by repeat (first | (with_reducible exact Ext.refl _) | (with_reducible apply Ext.drew) | (with_reducible apply Ext.drewN) | (with_reducible refine Ext.trans ?_ (by assumption))))) (RatB.ext (by assumption) (by repeat (first | (with_reducible exact Ext.refl _) | (with_reducible apply Ext.drew) | (with_reducible apply Ext.drewN) | (with_reducible refine Ext.trans ?_ (by assumption))))) (by decide)).mono ?_); rintro e wk ⟨rfl, hxk⟩)
        | (go_at_call 13; (with_reducible refine (RatSign_b _ _ _ _ (RatB.ext (by assumption) (by repeat (first | (with_reducible exact Ext.refl _) | (with_reducible apply Ext.drew) | (with_reducible apply Ext.drewN) | (with_reducible refine Ext.trans ?_ (by assumption)))))).mono ?_); rintro e wk ⟨rfl, hxk⟩)
        | (go_at_call 39; (with_reducible refine (RatOf_b _ _ (by first | assumption | decide) (by first | assumption | decide)).mono ?_); rintro e wk ⟨vk, rfl, hbk, hxk⟩; (obtain ⟨pk, Ak, nk, ck, pk', Ak', nk', ck', rfl⟩ := hbk.1.shape))
      )
    all_goals go_wp2_with fail
    all_goals go_ret
    all_goals exact ⟨rfl, hE0.trans (show Later W _ by first | assumption | (apply Later.drew; assumption) | (apply Later.drewN; assumption))⟩
  go_wp2_with fail
  refine (RatCmp_b _ _ Y Z 200 200 _ (hY.ext (show Ext W _ by assumption)) (hZ.ext (show Ext W _ by assumption)) (by decide)).mono ?_
  rintro e wb ⟨rfl, hxb⟩
  have hLb : Later W wb := Later.step (by assumption) hxb
  have hMb : Ext W wb := hLb
  rw [← HK'.out]
  cases b2
  case false =>
    go_upto_region 13 with fail
    go_region_held3 (fun w' => Later W w') ((repeat (first | assumption | apply Later.drew | apply Later.drewN | apply Later.alloc | (refine Later.step ?_ (by assumption))))) (first
        | (go_at_call 41; (with_reducible refine (RatAdd_b _ _ _ _ _ _ _ (RatB.ext (by assumption) (by repeat (first | (with_reducible exact Ext.refl _) | (with_reducible apply Ext.drew) | (with_reducible apply Ext.drewN) | (with_reducible refine Ext.trans ?_ (by assumption))))) (RatB.ext (by assumption) (by repeat (first | (with_reducible exact Ext.refl _) | (with_reducible apply Ext.drew) | (with_reducible apply Ext.drewN) | (with_reducible refine Ext.trans ?_ (by assumption))))) (by decide)).mono ?_); rintro e wk ⟨vk, rfl, hbk, hxk⟩; (obtain ⟨pk, Ak, nk, ck, pk', Ak', nk', ck', rfl⟩ := hbk.1.shape))
        | (go_at_call 38; (with_reducible refine (RatSub_b _ _ _ _ _ _ _ (RatB.ext (by assumption) (by repeat (first | (with_reducible exact Ext.refl _) | (with_reducible apply Ext.drew) | (with_reducible apply Ext.drewN) | (with_reducible refine Ext.trans ?_ (by assumption))))) (RatB.ext (by assumption) (by repeat (first | (with_reducible exact Ext.refl _) | (with_reducible apply Ext.drew) | (with_reducible apply Ext.drewN) | (with_reducible refine Ext.trans ?_ (by assumption))))) (by decide)).mono ?_); rintro e wk ⟨vk, rfl, hbk, hxk⟩; (obtain ⟨pk, Ak, nk, ck, pk', Ak', nk', ck', rfl⟩ := hbk.1.shape))
        | (go_at_call 42; (with_reducible refine (RatMul_b _ _ _ _ _ _ _ (RatB.ext (by assumption) (by repeat (first | (with_reducible exact Ext.refl _) | (with_reducible apply Ext.drew) | (with_reducible apply Ext.drewN) | (with_reducible refine Ext.trans ?_ (by assumption))))) (RatB.ext (by assumption) (by repeat (first | (with_reducible exact Ext.refl _) | (with_reducible apply Ext.drew) | (with_reducible apply Ext.drewN) | (with_reducible refine Ext.trans ?_ (by assumption))))) (by decide)).mono ?_); rintro e wk ⟨vk, rfl, hbk, hxk⟩; (obtain ⟨pk, Ak, nk, ck, pk', Ak', nk', ck', rfl⟩ := hbk.1.shape))
        | (go_at_call 36; (with_reducible refine (RatNeg_b _ _ _ _ (RatB.ext (by assumption) (by repeat (first | (with_reducible exact Ext.refl _) | (with_reducible apply Ext.drew) | (with_reducible apply Ext.drewN) | (with_reducible refine Ext.trans ?_ (by assumption)))))).mono ?_); rintro e wk ⟨vk, rfl, hbk, hxk⟩; (obtain ⟨pk, Ak, nk, ck, pk', Ak', nk', ck', rfl⟩ := hbk.1.shape))
        | (go_at_call 35; (with_reducible refine (RatCmp_b _ _ _ _ _ _ _ (RatB.ext (by assumption) (by repeat (first | (with_reducible exact Ext.refl _) | (with_reducible apply Ext.drew) | (with_reducible apply Ext.drewN) | (with_reducible refine Ext.trans ?_ (by assumption))))) (RatB.ext (by assumption) (by repeat (first | (with_reducible exact Ext.refl _) | (with_reducible apply Ext.drew) | (with_reducible apply Ext.drewN) | (with_reducible refine Ext.trans ?_ (by assumption))))) (by decide)).mono ?_); rintro e wk ⟨rfl, hxk⟩)
        | (go_at_call 13; (with_reducible refine (RatSign_b _ _ _ _ (RatB.ext (by assumption) (by repeat (first | (with_reducible exact Ext.refl _) | (with_reducible apply Ext.drew) | (with_reducible apply Ext.drewN) | (with_reducible refine Ext.trans ?_ (by assumption)))))).mono ?_); rintro e wk ⟨rfl, hxk⟩)
        | (go_at_call 39; (with_reducible refine (RatOf_b _ _ (by first | assumption | decide) (by first | assumption | decide)).mono ?_); rintro e wk ⟨vk, rfl, hbk, hxk⟩; (obtain ⟨pk, Ak, nk, ck, pk', Ak', nk', ck', rfl⟩ := hbk.1.shape))
      )
    all_goals go_wp2_with fail
    all_goals go_ret
    all_goals exact ⟨rfl, hE0.trans (show Later W _ by first | assumption | (apply Later.drew; assumption) | (apply Later.drewN; assumption))⟩
  obtain rfl : b3 = false := by have := H123.out; simpa using this
  go_wp2_with fail
  refine (RatCmp_b _ _ X Z 200 200 _ (hX.ext (show Ext W _ by assumption)) (hZ.ext (show Ext W _ by assumption)) (by decide)).mono ?_
  rintro e wc ⟨rfl, hxc⟩
  have hLc : Later W wc := Later.step (by assumption) hxc
  have hMc : Ext W wc := hLc
  rw [← HK''.out]
  go_upto_region 13 with fail
  go_region_held3 (fun w' => Later W w') ((repeat (first | assumption | apply Later.drew | apply Later.drewN | apply Later.alloc | (refine Later.step ?_ (by assumption))))) (first
      | (go_at_call 41; (with_reducible refine (RatAdd_b _ _ _ _ _ _ _ (RatB.ext (by assumption) (by repeat (first | (with_reducible exact Ext.refl _) | (with_reducible apply Ext.drew) | (with_reducible apply Ext.drewN) | (with_reducible refine Ext.trans ?_ (by assumption))))) (RatB.ext (by assumption) (by repeat (first | (with_reducible exact Ext.refl _) | (with_reducible apply Ext.drew) | (with_reducible apply Ext.drewN) | (with_reducible refine Ext.trans ?_ (by assumption))))) (by decide)).mono ?_); rintro e wk ⟨vk, rfl, hbk, hxk⟩; (obtain ⟨pk, Ak, nk, ck, pk', Ak', nk', ck', rfl⟩ := hbk.1.shape))
      | (go_at_call 38; (with_reducible refine (RatSub_b _ _ _ _ _ _ _ (RatB.ext (by assumption) (by repeat (first | (with_reducible exact Ext.refl _) | (with_reducible apply Ext.drew) | (with_reducible apply Ext.drewN) | (with_reducible refine Ext.trans ?_ (by assumption))))) (RatB.ext (by assumption) (by repeat (first | (with_reducible exact Ext.refl _) | (with_reducible apply Ext.drew) | (with_reducible apply Ext.drewN) | (with_reducible refine Ext.trans ?_ (by assumption))))) (by decide)).mono ?_); rintro e wk ⟨vk, rfl, hbk, hxk⟩; (obtain ⟨pk, Ak, nk, ck, pk', Ak', nk', ck', rfl⟩ := hbk.1.shape))
      | (go_at_call 42; (with_reducible refine (RatMul_b _ _ _ _ _ _ _ (RatB.ext (by assumption) (by repeat (first | (with_reducible exact Ext.refl _) | (with_reducible apply Ext.drew) | (with_reducible apply Ext.drewN) | (with_reducible refine Ext.trans ?_ (by assumption))))) (RatB.ext (by assumption) (by repeat (first | (with_reducible exact Ext.refl _) | (with_reducible apply Ext.drew) | (with_reducible apply Ext.drewN) | (with_reducible refine Ext.trans ?_ (by assumption))))) (by decide)).mono ?_); rintro e wk ⟨vk, rfl, hbk, hxk⟩; (obtain ⟨pk, Ak, nk, ck, pk', Ak', nk', ck', rfl⟩ := hbk.1.shape))
      | (go_at_call 36; (with_reducible refine (RatNeg_b _ _ _ _ (RatB.ext (by assumption) (by repeat (first | (with_reducible exact Ext.refl _) | (with_reducible apply Ext.drew) | (with_reducible apply Ext.drewN) | (with_reducible refine Ext.trans ?_ (by assumption)))))).mono ?_); rintro e wk ⟨vk, rfl, hbk, hxk⟩; (obtain ⟨pk, Ak, nk, ck, pk', Ak', nk', ck', rfl⟩ := hbk.1.shape))
      | (go_at_call 35; (with_reducible refine (RatCmp_b _ _ _ _ _ _ _ (RatB.ext (by assumption) (by repeat (first | (with_reducible exact Ext.refl _) | (with_reducible apply Ext.drew) | (with_reducible apply Ext.drewN) | (with_reducible refine Ext.trans ?_ (by assumption))))) (RatB.ext (by assumption) (by repeat (first | (with_reducible exact Ext.refl _) | (with_reducible apply Ext.drew) | (with_reducible apply Ext.drewN) | (with_reducible refine Ext.trans ?_ (by assumption))))) (by decide)).mono ?_); rintro e wk ⟨rfl, hxk⟩)
      | (go_at_call 13; (with_reducible refine (RatSign_b _ _ _ _ (RatB.ext (by assumption) (by repeat (first | (with_reducible exact Ext.refl _) | (with_reducible apply Ext.drew) | (with_reducible apply Ext.drewN) | (with_reducible refine Ext.trans ?_ (by assumption)))))).mono ?_); rintro e wk ⟨rfl, hxk⟩)
      | (go_at_call 39; (with_reducible refine (RatOf_b _ _ (by first | assumption | decide) (by first | assumption | decide)).mono ?_); rintro e wk ⟨vk, rfl, hbk, hxk⟩; (obtain ⟨pk, Ak, nk, ck, pk', Ak', nk', ck', rfl⟩ := hbk.1.shape))
    )
  all_goals go_wp2_with fail
  all_goals go_ret
  all_goals exact ⟨rfl, hE0.trans (show Later W _ by first | assumption | (apply Later.drew; assumption) | (apply Later.drewN; assumption))⟩
end Go.Proofs.YteohdiaegnfbaaaDoor.Rt
