/- Walk: the law RationalField. -/
import Derived.Test.YteohdiaegnfbaaaDoorT10
set_option linter.unusedVariables false
set_option linter.unusedSimpArgs false
namespace Go.Proofs.YteohdiaegnfbaaaDoor.Rt
open Go.RowKit Go.Proofs.YteohdiaegnfbaaaDoor.Big
open Go.Lib (itoa)

theorem addz (x : Rat) : x + ((0 : Int) : Rat) = x := Rat.add_zero x
theorem mulo (x : Rat) : x * ((1 : Int) : Rat) = x := Rat.mul_one x
theorem addneg_sign (x : Rat) : (x + -x).num.sign = 0 := by rw [Rat.add_neg_cancel]; rfl
theorem divmul {x y : Rat} (h : y.num ≠ 0) : x / y * y = x := Rat.div_mul_cancel (fun e => h (by rw [e]; rfl))
theorem divrec (x y : Rat) : x / y = x * (((1 : Int) : Rat) / y) := by
  rw [Rat.div_def, Rat.div_def, show (((1 : Int) : Rat)) = 1 from rfl, Rat.one_mul]
attribute [local go_sem] Go.World.cell?_alloc_some Go.RowKit.frozen?_alloc_cells
set_option maxRecDepth 100000 in
set_option maxHeartbeats 16000000 in
theorem field_any (s t u : ByteArray) (w : World) (htab : TabOK w) (hmx : MxOK w) :
    Calls Tryd.prog 8 #[.string s, .string t, .string u] w (fun e w' => e = .returned (.bool true) ∧ Ext w w') := by
  go_enter Tryd.func8, Tryd.ntmps8
  go_wp2_with fail
  refine (RatAwake_any _ htab hmx).mono ?_
  rintro e w1 ⟨rfl, hx1⟩
  go_wp2_with fail
  refine (long_any s _).mono ?_
  rintro e w' ⟨rfl, rfl⟩
  obtain ⟨bl, hbl⟩ : ∃ b, b = decide ((200 : Int) < s.size) := ⟨_, rfl⟩
  rw [← hbl]
  have HBL := Lib.hid hbl
  clear hbl
  cases bl
  case true =>
    go_wp2_with fail
    go_ret
    exact ⟨rfl, hx1⟩
  have ns : s.size ≤ 200 := by have := HBL.out; simp at this; omega
  clear HBL
  go_wp2_with fail
  refine (long_any t _).mono ?_
  rintro e w' ⟨rfl, rfl⟩
  obtain ⟨bl, hbl⟩ : ∃ b, b = decide ((200 : Int) < t.size) := ⟨_, rfl⟩
  rw [← hbl]
  have HBL := Lib.hid hbl
  clear hbl
  cases bl
  case true =>
    go_wp2_with fail
    go_ret
    exact ⟨rfl, hx1⟩
  have nt : t.size ≤ 200 := by have := HBL.out; simp at this; omega
  clear HBL
  go_wp2_with fail
  refine (long_any u _).mono ?_
  rintro e w' ⟨rfl, rfl⟩
  obtain ⟨bl, hbl⟩ : ∃ b, b = decide ((200 : Int) < u.size) := ⟨_, rfl⟩
  rw [← hbl]
  have HBL := Lib.hid hbl
  clear hbl
  cases bl
  case true =>
    go_wp2_with fail
    go_ret
    exact ⟨rfl, hx1⟩
  have nu : u.size ≤ 200 := by have := HBL.out; simp at this; omega
  clear HBL
  go_wp2_with fail
  refine (RatTwo_any s t 200 _ (by omega) (by omega) (by omega) (by omega) (by decide) (by decide) (hmx.ext hx1)).mono ?_
  rintro e w2 ⟨v2, v3, X, Y, rfl, hX0, hY0, hXv, hYv, hx2⟩
  obtain ⟨p2, A2, k2, c2, p2', A2', k2', c2', rfl⟩ := hX0.1.shape
  obtain ⟨p3, A3, k3, c3, p3', A3', k3', c3', rfl⟩ := hY0.1.shape
  obtain ⟨o1, ho1⟩ : ∃ o, o = (isRat s.data.toList && isRat t.data.toList) := ⟨_, rfl⟩
  rw [← ho1]
  have HO1 := Lib.hid ho1
  have HXV := Lib.hid hXv
  have HYV := Lib.hid hYv
  clear ho1 hXv hYv
  go_upto_region 6 with fail
  obtain ⟨B7, B8, hE⟩ := boxesT2 w2 29 29 #[.bool p2, .slice A2 k2 c2, .bool p2', .slice A2' k2' c2'] #[.bool p3, .slice A3 k3 c3, .bool p3', .slice A3' k3' c3']
  have hX1 := hX0.ext hE
  have hY1 := hY0.ext hE
  have hE1 := (hx1.trans hx2).trans hE
  generalize ((w2.alloc (.cells #[.bool p2, .slice A2 k2 c2, .bool p2', .slice A2' k2' c2'] 29)).alloc (.cells #[.bool p3, .slice A3 k3 c3, .bool p3', .slice A3' k3' c3'] 29)) = V at *
  clear hE hx1 hx2 hX0 hY0
  go_wp2_with fail
  refine (RatParse_b u 200 _ (by omega) (by omega) (by decide) (by decide) (hmx.ext hE1)).mono ?_
  rintro e w3 ⟨v4, Z, rfl, hZ0, hZv, hx3⟩
  obtain ⟨p4, A4, k4, c4, p4', A4', k4', c4', rfl⟩ := hZ0.1.shape
  obtain ⟨o2, ho2⟩ : ∃ o, o = isRat u.data.toList := ⟨_, rfl⟩
  obtain ⟨es, hes⟩ : ∃ es : Int, es = (if isRat u.data.toList = true then 0 else 3) := ⟨_, rfl⟩
  rw [← hes]
  rw [← ho2] at hes hZv
  have hde : (es != 0) = !o2 := by rw [hes]; cases o2 <;> rfl
  have HO2 := Lib.hid ho2
  have HZV := Lib.hid hZv
  clear ho2 hZv hes
  have B7 := B7.ext hx3
  have B8 := B8.ext hx3
  have hX1 := hX1.ext hx3
  have hY1 := hY1.ext hx3
  have hE1 := hE1.trans hx3
  go_upto_region 7 with fail
  have hE : Ext w3 (w3.alloc (.cells #[.bool p4, .slice A4 k4 c4, .bool p4', .slice A4' k4' c4'] 29)) := (Ext.refl w3).alloc _
  have B9 := Box.new w3 29 #[.bool p4, .slice A4 k4 c4, .bool p4', .slice A4' k4' c4']
  have hX := hX1.ext hE
  have hY := hY1.ext hE
  have hZ := hZ0.ext hE
  have B7 := B7.ext hE
  have B8 := B8.ext hE
  have hE0 := hE1.trans hE
  generalize (w3.alloc (.cells #[.bool p4, .slice A4 k4 c4, .bool p4', .slice A4' k4' c4'] 29)) = W at *
  clear hE hx3 hX1 hY1 hZ0 hE1
  cases o1
  case false =>
    go_wp2_with fail
    go_ret
    exact ⟨rfl, hE0⟩
  cases o2
  case false =>
    go_wp2_with fail
    go_ret
    exact ⟨rfl, hE0⟩
  have hTab := htab.ext hE0
  have k70 : ∀ w', Later W w' → w'.cell? ⟨_, 0, none⟩ = some _ := fun w' h => (B7.ext h).c0
  have k71 : ∀ w', Later W w' → w'.cell? ⟨_, 1, none⟩ = some _ := fun w' h => (B7.ext h).c1
  have k72 : ∀ w', Later W w' → w'.cell? ⟨_, 2, none⟩ = some _ := fun w' h => (B7.ext h).c2
  have k73 : ∀ w', Later W w' → w'.cell? ⟨_, 3, none⟩ = some _ := fun w' h => (B7.ext h).c3
  have k80 : ∀ w', Later W w' → w'.cell? ⟨_, 0, none⟩ = some _ := fun w' h => (B8.ext h).c0
  have k81 : ∀ w', Later W w' → w'.cell? ⟨_, 1, none⟩ = some _ := fun w' h => (B8.ext h).c1
  have k82 : ∀ w', Later W w' → w'.cell? ⟨_, 2, none⟩ = some _ := fun w' h => (B8.ext h).c2
  have k83 : ∀ w', Later W w' → w'.cell? ⟨_, 3, none⟩ = some _ := fun w' h => (B8.ext h).c3
  have k90 : ∀ w', Later W w' → w'.cell? ⟨_, 0, none⟩ = some _ := fun w' h => (B9.ext h).c0
  have k91 : ∀ w', Later W w' → w'.cell? ⟨_, 1, none⟩ = some _ := fun w' h => (B9.ext h).c1
  have k92 : ∀ w', Later W w' → w'.cell? ⟨_, 2, none⟩ = some _ := fun w' h => (B9.ext h).c2
  have k93 : ∀ w', Later W w' → w'.cell? ⟨_, 3, none⟩ = some _ := fun w' h => (B9.ext h).c3
  have hS0 := Later.refl W
  go_wp2_with fail
  have z0 := addneg_sign X
  go_upto_region 9 with fail
  go_cut [107] (fun v wx => v = .bool false ∧ Later W wx)
  case first => as_aux_lemma =>
    go_region_held3 (fun w' => Later W w') ((repeat (first | assumption | apply Later.drew | apply Later.drewN | apply Later.alloc | (refine Later.step ?_ (by assumption))))) (first
        | (go_at_call 24; (with_reducible refine (RatSame_eq _ _ _ _ _ _ _ (RatB.ext (by assumption) (by repeat (first | (with_reducible exact Ext.refl _) | (with_reducible apply Ext.drew) | (with_reducible apply Ext.drewN) | (with_reducible refine Ext.trans ?_ (by assumption))))) (RatB.ext (by assumption) (by repeat (first | (with_reducible exact Ext.refl _) | (with_reducible apply Ext.drew) | (with_reducible apply Ext.drewN) | (with_reducible refine Ext.trans ?_ (by assumption))))) (by decide) (TabOK.ext hTab (by repeat (first | (with_reducible exact Ext.refl _) | (with_reducible apply Ext.drew) | (with_reducible apply Ext.drewN) | (with_reducible refine Ext.trans ?_ (by assumption))))) (by first | exact Rat.add_comm _ _ | exact Rat.mul_comm _ _ | exact Rat.add_assoc _ _ _ | exact Rat.mul_assoc _ _ _ | exact Rat.mul_add _ _ _ | exact Rat.sub_eq_add_neg _ _ | exact addz _ | exact mulo _ | assumption | exact rfl)).mono ?_); rintro e wk ⟨rfl, hxk⟩)
        | (go_at_call 41; (with_reducible refine (RatAdd_b _ _ _ _ _ _ _ (RatB.ext (by assumption) (by repeat (first | (with_reducible exact Ext.refl _) | (with_reducible apply Ext.drew) | (with_reducible apply Ext.drewN) | (with_reducible refine Ext.trans ?_ (by assumption))))) (RatB.ext (by assumption) (by repeat (first | (with_reducible exact Ext.refl _) | (with_reducible apply Ext.drew) | (with_reducible apply Ext.drewN) | (with_reducible refine Ext.trans ?_ (by assumption))))) (by decide)).mono ?_); rintro e wk ⟨vk, rfl, hbk, hxk⟩; (obtain ⟨pk, Ak, nk, ck, pk', Ak', nk', ck', rfl⟩ := hbk.1.shape))
        | (go_at_call 38; (with_reducible refine (RatSub_b _ _ _ _ _ _ _ (RatB.ext (by assumption) (by repeat (first | (with_reducible exact Ext.refl _) | (with_reducible apply Ext.drew) | (with_reducible apply Ext.drewN) | (with_reducible refine Ext.trans ?_ (by assumption))))) (RatB.ext (by assumption) (by repeat (first | (with_reducible exact Ext.refl _) | (with_reducible apply Ext.drew) | (with_reducible apply Ext.drewN) | (with_reducible refine Ext.trans ?_ (by assumption))))) (by decide)).mono ?_); rintro e wk ⟨vk, rfl, hbk, hxk⟩; (obtain ⟨pk, Ak, nk, ck, pk', Ak', nk', ck', rfl⟩ := hbk.1.shape))
        | (go_at_call 42; (with_reducible refine (RatMul_b _ _ _ _ _ _ _ (RatB.ext (by assumption) (by repeat (first | (with_reducible exact Ext.refl _) | (with_reducible apply Ext.drew) | (with_reducible apply Ext.drewN) | (with_reducible refine Ext.trans ?_ (by assumption))))) (RatB.ext (by assumption) (by repeat (first | (with_reducible exact Ext.refl _) | (with_reducible apply Ext.drew) | (with_reducible apply Ext.drewN) | (with_reducible refine Ext.trans ?_ (by assumption))))) (by decide)).mono ?_); rintro e wk ⟨vk, rfl, hbk, hxk⟩; (obtain ⟨pk, Ak, nk, ck, pk', Ak', nk', ck', rfl⟩ := hbk.1.shape))
        | (go_at_call 36; (with_reducible refine (RatNeg_b _ _ _ _ (RatB.ext (by assumption) (by repeat (first | (with_reducible exact Ext.refl _) | (with_reducible apply Ext.drew) | (with_reducible apply Ext.drewN) | (with_reducible refine Ext.trans ?_ (by assumption)))))).mono ?_); rintro e wk ⟨vk, rfl, hbk, hxk⟩; (obtain ⟨pk, Ak, nk, ck, pk', Ak', nk', ck', rfl⟩ := hbk.1.shape))
        | (go_at_call 35; (with_reducible refine (RatCmp_b _ _ _ _ _ _ _ (RatB.ext (by assumption) (by repeat (first | (with_reducible exact Ext.refl _) | (with_reducible apply Ext.drew) | (with_reducible apply Ext.drewN) | (with_reducible refine Ext.trans ?_ (by assumption))))) (RatB.ext (by assumption) (by repeat (first | (with_reducible exact Ext.refl _) | (with_reducible apply Ext.drew) | (with_reducible apply Ext.drewN) | (with_reducible refine Ext.trans ?_ (by assumption))))) (by decide)).mono ?_); rintro e wk ⟨rfl, hxk⟩)
        | (go_at_call 13; (with_reducible refine (RatSign_b _ _ _ _ (RatB.ext (by assumption) (by repeat (first | (with_reducible exact Ext.refl _) | (with_reducible apply Ext.drew) | (with_reducible apply Ext.drewN) | (with_reducible refine Ext.trans ?_ (by assumption)))))).mono ?_); rintro e wk ⟨rfl, hxk⟩)
        | (go_at_call 39; (with_reducible refine (RatOf_b _ _ (by first | assumption | decide) (by first | assumption | decide)).mono ?_); rintro e wk ⟨vk, rfl, hbk, hxk⟩; (obtain ⟨pk, Ak, nk, ck, pk', Ak', nk', ck', rfl⟩ := hbk.1.shape))
      )
    all_goals (go_wp2_with fail; go_meet)
    all_goals exact ⟨rfl, by assumption⟩
  case rest =>
    obtain ⟨rfl, hL9⟩ := hcut
    go_upto_region 11 with fail
    go_cut [140] (fun v wx => v = .bool false ∧ Later W wx)
    case first => as_aux_lemma =>
      have hM9 : Ext W wc := hL9
      have hX := hX.ext hM9
      have hY := hY.ext hM9
      have hZ := hZ.ext hM9
      have hTab := hTab.ext hM9
      clear hM9
      go_region_held3 (fun w' => Later W w') ((repeat (first | assumption | apply Later.drew | apply Later.drewN | apply Later.alloc | (refine Later.step ?_ (by assumption))))) (first
          | (go_at_call 24; (with_reducible refine (RatSame_eq _ _ _ _ _ _ _ (RatB.ext (by assumption) (by repeat (first | (with_reducible exact Ext.refl _) | (with_reducible apply Ext.drew) | (with_reducible apply Ext.drewN) | (with_reducible refine Ext.trans ?_ (by assumption))))) (RatB.ext (by assumption) (by repeat (first | (with_reducible exact Ext.refl _) | (with_reducible apply Ext.drew) | (with_reducible apply Ext.drewN) | (with_reducible refine Ext.trans ?_ (by assumption))))) (by decide) (TabOK.ext hTab (by repeat (first | (with_reducible exact Ext.refl _) | (with_reducible apply Ext.drew) | (with_reducible apply Ext.drewN) | (with_reducible refine Ext.trans ?_ (by assumption))))) (by first | exact Rat.add_comm _ _ | exact Rat.mul_comm _ _ | exact Rat.add_assoc _ _ _ | exact Rat.mul_assoc _ _ _ | exact Rat.mul_add _ _ _ | exact Rat.sub_eq_add_neg _ _ | exact addz _ | exact mulo _ | assumption | exact rfl)).mono ?_); rintro e wk ⟨rfl, hxk⟩)
          | (go_at_call 41; (with_reducible refine (RatAdd_b _ _ _ _ _ _ _ (RatB.ext (by assumption) (by repeat (first | (with_reducible exact Ext.refl _) | (with_reducible apply Ext.drew) | (with_reducible apply Ext.drewN) | (with_reducible refine Ext.trans ?_ (by assumption))))) (RatB.ext (by assumption) (by repeat (first | (with_reducible exact Ext.refl _) | (with_reducible apply Ext.drew) | (with_reducible apply Ext.drewN) | (with_reducible refine Ext.trans ?_ (by assumption))))) (by decide)).mono ?_); rintro e wk ⟨vk, rfl, hbk, hxk⟩; (obtain ⟨pk, Ak, nk, ck, pk', Ak', nk', ck', rfl⟩ := hbk.1.shape))
          | (go_at_call 38; (with_reducible refine (RatSub_b _ _ _ _ _ _ _ (RatB.ext (by assumption) (by repeat (first | (with_reducible exact Ext.refl _) | (with_reducible apply Ext.drew) | (with_reducible apply Ext.drewN) | (with_reducible refine Ext.trans ?_ (by assumption))))) (RatB.ext (by assumption) (by repeat (first | (with_reducible exact Ext.refl _) | (with_reducible apply Ext.drew) | (with_reducible apply Ext.drewN) | (with_reducible refine Ext.trans ?_ (by assumption))))) (by decide)).mono ?_); rintro e wk ⟨vk, rfl, hbk, hxk⟩; (obtain ⟨pk, Ak, nk, ck, pk', Ak', nk', ck', rfl⟩ := hbk.1.shape))
          | (go_at_call 42; (with_reducible refine (RatMul_b _ _ _ _ _ _ _ (RatB.ext (by assumption) (by repeat (first | (with_reducible exact Ext.refl _) | (with_reducible apply Ext.drew) | (with_reducible apply Ext.drewN) | (with_reducible refine Ext.trans ?_ (by assumption))))) (RatB.ext (by assumption) (by repeat (first | (with_reducible exact Ext.refl _) | (with_reducible apply Ext.drew) | (with_reducible apply Ext.drewN) | (with_reducible refine Ext.trans ?_ (by assumption))))) (by decide)).mono ?_); rintro e wk ⟨vk, rfl, hbk, hxk⟩; (obtain ⟨pk, Ak, nk, ck, pk', Ak', nk', ck', rfl⟩ := hbk.1.shape))
          | (go_at_call 36; (with_reducible refine (RatNeg_b _ _ _ _ (RatB.ext (by assumption) (by repeat (first | (with_reducible exact Ext.refl _) | (with_reducible apply Ext.drew) | (with_reducible apply Ext.drewN) | (with_reducible refine Ext.trans ?_ (by assumption)))))).mono ?_); rintro e wk ⟨vk, rfl, hbk, hxk⟩; (obtain ⟨pk, Ak, nk, ck, pk', Ak', nk', ck', rfl⟩ := hbk.1.shape))
          | (go_at_call 35; (with_reducible refine (RatCmp_b _ _ _ _ _ _ _ (RatB.ext (by assumption) (by repeat (first | (with_reducible exact Ext.refl _) | (with_reducible apply Ext.drew) | (with_reducible apply Ext.drewN) | (with_reducible refine Ext.trans ?_ (by assumption))))) (RatB.ext (by assumption) (by repeat (first | (with_reducible exact Ext.refl _) | (with_reducible apply Ext.drew) | (with_reducible apply Ext.drewN) | (with_reducible refine Ext.trans ?_ (by assumption))))) (by decide)).mono ?_); rintro e wk ⟨rfl, hxk⟩)
          | (go_at_call 13; (with_reducible refine (RatSign_b _ _ _ _ (RatB.ext (by assumption) (by repeat (first | (with_reducible exact Ext.refl _) | (with_reducible apply Ext.drew) | (with_reducible apply Ext.drewN) | (with_reducible refine Ext.trans ?_ (by assumption)))))).mono ?_); rintro e wk ⟨rfl, hxk⟩)
          | (go_at_call 39; (with_reducible refine (RatOf_b _ _ (by first | assumption | decide) (by first | assumption | decide)).mono ?_); rintro e wk ⟨vk, rfl, hbk, hxk⟩; (obtain ⟨pk, Ak, nk, ck, pk', Ak', nk', ck', rfl⟩ := hbk.1.shape))
        )
      all_goals (go_wp2_with fail; go_meet)
      all_goals exact ⟨rfl, by assumption⟩
    case rest =>
      obtain ⟨rfl, hL11⟩ := hcut
      clear hL9
      have hM11 : Ext W wc := hL11
      obtain ⟨sy, hsy⟩ : ∃ s, s = Y.num.sign := ⟨_, rfl⟩
      by_cases hY0 : Y.num = 0
      · have e1 : (sy == 0) = true := by rw [hsy, hY0]; rfl
        have HSY := Lib.hid hsy
        clear hsy hY0
        go_wp2_with fail
        refine (RatSign_b _ _ _ _ (hY.ext hM11)).mono ?_
        rintro e w5 ⟨rfl, hx5⟩
        rw [← HSY.out]
        go_wp2_with fail
        go_ret
        exact ⟨rfl, (hE0.trans hM11).trans hx5⟩
      · have e1 : (sy == 0) = false := by rw [hsy]; exact sign_ne hY0
        have HSY := Lib.hid hsy
        have HY0 := Lib.hid hY0
        clear hsy hY0
        go_wp2_with fail
        refine (RatSign_b _ _ _ _ (hY.ext hM11)).mono ?_
        rintro e w5 ⟨rfl, hx5⟩
        rw [← HSY.out]
        have hL5 : Later W w5 := Later.step hL11 hx5
        have hM5 : Ext W w5 := hL5
        go_wp2_with fail
        refine (RatDiv_b _ _ _ _ _ _ _ (hX.ext hM5) (hY.ext hM5) (by decide) HY0.out).mono ?_
        rintro e w6 ⟨v6, rfl, h6, hx6⟩
        obtain ⟨p6, A6, n6, c6, p6', A6', n6', c6', rfl⟩ := h6.1.shape
        go_upto_region 16 with fail
        have hx7 : Ext w6 (w6.alloc (.cells #[.bool p6, .slice A6 n6 c6, .bool p6', .slice A6' n6' c6'] 29)) := (Ext.refl w6).alloc _
        have B12 := Box.new w6 29 #[.bool p6, .slice A6 n6 c6, .bool p6', .slice A6' n6' c6']
        have hQ := h6.ext hx7
        have hM7 := (hM5.trans hx6).trans hx7
        have hX := hX.ext hM7
        have hY := hY.ext hM7
        have B7 := B7.ext hM7
        have B8 := B8.ext hM7
        have hTab := hTab.ext hM7
        have hE7 := hE0.trans hM7
        generalize (w6.alloc (.cells #[.bool p6, .slice A6 n6 c6, .bool p6', .slice A6' n6' c6'] 29)) = W7 at *
        clear hx6 hx7 hM7 hM5 hL5 hM11 hL11 hx5 k70 k71 k72 k73 k80 k81 k82 k83 k90 k91 k92 k93 hZ hE0 B9 z0 hS0
        have k70 : ∀ w', Later W7 w' → w'.cell? ⟨_, 0, none⟩ = some _ := fun w' h => (B7.ext h).c0
        have k71 : ∀ w', Later W7 w' → w'.cell? ⟨_, 1, none⟩ = some _ := fun w' h => (B7.ext h).c1
        have k72 : ∀ w', Later W7 w' → w'.cell? ⟨_, 2, none⟩ = some _ := fun w' h => (B7.ext h).c2
        have k73 : ∀ w', Later W7 w' → w'.cell? ⟨_, 3, none⟩ = some _ := fun w' h => (B7.ext h).c3
        have k80 : ∀ w', Later W7 w' → w'.cell? ⟨_, 0, none⟩ = some _ := fun w' h => (B8.ext h).c0
        have k81 : ∀ w', Later W7 w' → w'.cell? ⟨_, 1, none⟩ = some _ := fun w' h => (B8.ext h).c1
        have k82 : ∀ w', Later W7 w' → w'.cell? ⟨_, 2, none⟩ = some _ := fun w' h => (B8.ext h).c2
        have k83 : ∀ w', Later W7 w' → w'.cell? ⟨_, 3, none⟩ = some _ := fun w' h => (B8.ext h).c3
        have k120 : ∀ w', Later W7 w' → w'.cell? ⟨_, 0, none⟩ = some _ := fun w' h => (B12.ext h).c0
        have k121 : ∀ w', Later W7 w' → w'.cell? ⟨_, 1, none⟩ = some _ := fun w' h => (B12.ext h).c1
        have k122 : ∀ w', Later W7 w' → w'.cell? ⟨_, 2, none⟩ = some _ := fun w' h => (B12.ext h).c2
        have k123 : ∀ w', Later W7 w' → w'.cell? ⟨_, 3, none⟩ = some _ := fun w' h => (B12.ext h).c3
        have hS0 := Later.refl W7
        go_cut [14, 15] (fun v er wx => ∃ (b n c n' c' : Nat) (p p' : Bool) (A A' : Option Addr), v = .pointer (some ⟨b, 0, none⟩) ∧ er = .int .i64 0 ∧ Box wx b 29 #[.bool p, .slice A n c, .bool p', .slice A' n' c'] ∧ RatB wx (.agg #[.bool p, .slice A n c, .bool p', .slice A' n' c']) (((1 : Int) : Rat) / Y) 202 ∧ Later W7 wx)
        case first => as_aux_lemma =>
          go_region_held3 (fun w' => Later W7 w') ((repeat (first | assumption | apply Later.drew | apply Later.drewN | apply Later.alloc | (refine Later.set ?_ (by first | exact Nat.le_refl _ | exact Nat.le_succ _ | exact Later.size (by assumption) | exact Nat.le_succ_of_le (Later.size (by assumption))) _) | (refine Later.step ?_ (by assumption))))) (first
            | (go_at_call 39; (with_reducible refine (RatOf_b 1 _ (by decide) (by decide)).mono ?_); rintro e wa ⟨va, rfl, ha, hxa⟩; (obtain ⟨pa, Aa, na, ca, pa', Aa', na', ca', rfl⟩ := ha.1.shape); (have hSa := Later.step (by assumption) hxa); (try (have e1 := boxAd hxa; have e11 := e1.c0; have e12 := e1.c1; have e13 := e1.c2; have e14 := e1.c3; have e15 := e1.frozen 0; have e16 := e1.frozen 1; have e17 := e1.frozen 2; have e18 := e1.frozen 3)))
            | (go_at_call 43; (with_reducible refine (RatDiv_b _ _ _ _ _ _ _ (ha.ext (by repeat (first | (with_reducible exact Ext.refl _) | (with_reducible apply Ext.drew) | (with_reducible apply Ext.drewN) | (with_reducible apply Ext.alloc)))) (hY.ext (by repeat (first | (with_reducible exact Ext.refl _) | (with_reducible apply Ext.drew) | (with_reducible apply Ext.drewN) | (with_reducible apply Ext.alloc) | (with_reducible refine Ext.trans ?_ (by assumption))))) (by decide) HY0.out).mono ?_); rintro e wb ⟨vb, rfl, hb, hxb⟩; (obtain ⟨pb, Ab, nb, cb, pb', Ab', nb', cb', rfl⟩ := hb.1.shape); (have hSb := Later.step (by assumption) hxb); (try (have g1 := boxA hxb; have g11 := g1.c0; have g12 := g1.c1; have g13 := g1.c2; have g14 := g1.c3; have g15 := g1.frozen 0; have g16 := g1.frozen 1; have g17 := g1.frozen 2; have g18 := g1.frozen 3)); (try (have g1 := Box.ext e1 hxb; have g11 := g1.c0; have g12 := g1.c1; have g13 := g1.c2; have g14 := g1.c3; have g15 := g1.frozen 0; have g16 := g1.frozen 1; have g17 := g1.frozen 2; have g18 := g1.frozen 3)))
            )
          all_goals (go_wp2_with fail; go_meet)
          all_goals first
            | (with_reducible exact ⟨_, _, _, _, _, _, _, _, _, rfl, rfl, Box.new _ _ _, hb.ext ((Ext.refl _).alloc _), Later.alloc hSb _⟩)
            | exact ⟨_, _, _, _, _, _, _, _, _, rfl, rfl, g1.set4 _ _ _ _, hb.far4 g1, Ext.set4 (show Ext W7 _ from hSb) (by first | exact Nat.le_refl _ | exact Later.size hSa) _ _ _ _⟩
        case rest => as_aux_lemma =>
          obtain ⟨b, n, c, n', c', p, p', A, A', rfl, rfl, BR, hR, hLr⟩ := hcut
          have hMr : Ext W7 wc := hLr
          have hX := hX.ext hMr
          have hY := hY.ext hMr
          have hQ := hQ.ext hMr
          have B7 := B7.ext hMr
          have B8 := B8.ext hMr
          have B12 := B12.ext hMr
          have hTab := hTab.ext hMr
          have hEr := hE7.trans hMr
          clear k70 k71 k72 k73 k80 k81 k82 k83 k120 k121 k122 k123 hS0 hMr hLr
          have k70 : ∀ w', Later wc w' → w'.cell? ⟨_, 0, none⟩ = some _ := fun w' h => (B7.ext h).c0
          have k71 : ∀ w', Later wc w' → w'.cell? ⟨_, 1, none⟩ = some _ := fun w' h => (B7.ext h).c1
          have k72 : ∀ w', Later wc w' → w'.cell? ⟨_, 2, none⟩ = some _ := fun w' h => (B7.ext h).c2
          have k73 : ∀ w', Later wc w' → w'.cell? ⟨_, 3, none⟩ = some _ := fun w' h => (B7.ext h).c3
          have k80 : ∀ w', Later wc w' → w'.cell? ⟨_, 0, none⟩ = some _ := fun w' h => (B8.ext h).c0
          have k81 : ∀ w', Later wc w' → w'.cell? ⟨_, 1, none⟩ = some _ := fun w' h => (B8.ext h).c1
          have k82 : ∀ w', Later wc w' → w'.cell? ⟨_, 2, none⟩ = some _ := fun w' h => (B8.ext h).c2
          have k83 : ∀ w', Later wc w' → w'.cell? ⟨_, 3, none⟩ = some _ := fun w' h => (B8.ext h).c3
          have k120 : ∀ w', Later wc w' → w'.cell? ⟨_, 0, none⟩ = some _ := fun w' h => (B12.ext h).c0
          have k121 : ∀ w', Later wc w' → w'.cell? ⟨_, 1, none⟩ = some _ := fun w' h => (B12.ext h).c1
          have k122 : ∀ w', Later wc w' → w'.cell? ⟨_, 2, none⟩ = some _ := fun w' h => (B12.ext h).c2
          have k123 : ∀ w', Later wc w' → w'.cell? ⟨_, 3, none⟩ = some _ := fun w' h => (B12.ext h).c3
          have kr0 : ∀ w', Later wc w' → w'.cell? ⟨_, 0, none⟩ = some _ := fun w' h => (BR.ext h).c0
          have kr1 : ∀ w', Later wc w' → w'.cell? ⟨_, 1, none⟩ = some _ := fun w' h => (BR.ext h).c1
          have kr2 : ∀ w', Later wc w' → w'.cell? ⟨_, 2, none⟩ = some _ := fun w' h => (BR.ext h).c2
          have kr3 : ∀ w', Later wc w' → w'.cell? ⟨_, 3, none⟩ = some _ := fun w' h => (BR.ext h).c3
          have hS0 := Later.refl wc
          have s1 : X / Y * Y = X := divmul HY0.out
          have s2 : X / Y = X * (((1 : Int) : Rat) / Y) := divrec X Y
          have S1 := Lib.hid s1
          have S2 := Lib.hid s2
          clear s1 s2
          go_upto_region 17 with fail
          go_region_held3 (fun w' => Later wc w') ((repeat (first | assumption | apply Later.drew | apply Later.drewN | apply Later.alloc | (refine Later.step ?_ (by assumption))))) (first
            | (go_at_call 24; (with_reducible refine (RatSame_eq _ _ _ _ _ _ _ (RatB.ext (by assumption) (by repeat (first | (with_reducible exact Ext.refl _) | (with_reducible apply Ext.drew) | (with_reducible apply Ext.drewN) | (with_reducible refine Ext.trans ?_ (by assumption))))) (RatB.ext (by assumption) (by repeat (first | (with_reducible exact Ext.refl _) | (with_reducible apply Ext.drew) | (with_reducible apply Ext.drewN) | (with_reducible refine Ext.trans ?_ (by assumption))))) (by decide) (TabOK.ext hTab (by repeat (first | (with_reducible exact Ext.refl _) | (with_reducible apply Ext.drew) | (with_reducible apply Ext.drewN) | (with_reducible refine Ext.trans ?_ (by assumption))))) (by first | exact S1.out | exact S2.out)).mono ?_); rintro e wk ⟨rfl, hxk⟩)
              | (go_at_call 41; (with_reducible refine (RatAdd_b _ _ _ _ _ _ _ (RatB.ext (by assumption) (by repeat (first | (with_reducible exact Ext.refl _) | (with_reducible apply Ext.drew) | (with_reducible apply Ext.drewN) | (with_reducible refine Ext.trans ?_ (by assumption))))) (RatB.ext (by assumption) (by repeat (first | (with_reducible exact Ext.refl _) | (with_reducible apply Ext.drew) | (with_reducible apply Ext.drewN) | (with_reducible refine Ext.trans ?_ (by assumption))))) (by decide)).mono ?_); rintro e wk ⟨vk, rfl, hbk, hxk⟩; (obtain ⟨pk, Ak, nk, ck, pk', Ak', nk', ck', rfl⟩ := hbk.1.shape))
              | (go_at_call 38; (with_reducible refine (RatSub_b _ _ _ _ _ _ _ (RatB.ext (by assumption) (by repeat (first | (with_reducible exact Ext.refl _) | (with_reducible apply Ext.drew) | (with_reducible apply Ext.drewN) | (with_reducible refine Ext.trans ?_ (by assumption))))) (RatB.ext (by assumption) (by repeat (first | (with_reducible exact Ext.refl _) | (with_reducible apply Ext.drew) | (with_reducible apply Ext.drewN) | (with_reducible refine Ext.trans ?_ (by assumption))))) (by decide)).mono ?_); rintro e wk ⟨vk, rfl, hbk, hxk⟩; (obtain ⟨pk, Ak, nk, ck, pk', Ak', nk', ck', rfl⟩ := hbk.1.shape))
              | (go_at_call 42; (with_reducible refine (RatMul_b _ _ _ _ _ _ _ (RatB.ext (by assumption) (by repeat (first | (with_reducible exact Ext.refl _) | (with_reducible apply Ext.drew) | (with_reducible apply Ext.drewN) | (with_reducible refine Ext.trans ?_ (by assumption))))) (RatB.ext (by assumption) (by repeat (first | (with_reducible exact Ext.refl _) | (with_reducible apply Ext.drew) | (with_reducible apply Ext.drewN) | (with_reducible refine Ext.trans ?_ (by assumption))))) (by decide)).mono ?_); rintro e wk ⟨vk, rfl, hbk, hxk⟩; (obtain ⟨pk, Ak, nk, ck, pk', Ak', nk', ck', rfl⟩ := hbk.1.shape))
              | (go_at_call 36; (with_reducible refine (RatNeg_b _ _ _ _ (RatB.ext (by assumption) (by repeat (first | (with_reducible exact Ext.refl _) | (with_reducible apply Ext.drew) | (with_reducible apply Ext.drewN) | (with_reducible refine Ext.trans ?_ (by assumption)))))).mono ?_); rintro e wk ⟨vk, rfl, hbk, hxk⟩; (obtain ⟨pk, Ak, nk, ck, pk', Ak', nk', ck', rfl⟩ := hbk.1.shape))
              | (go_at_call 35; (with_reducible refine (RatCmp_b _ _ _ _ _ _ _ (RatB.ext (by assumption) (by repeat (first | (with_reducible exact Ext.refl _) | (with_reducible apply Ext.drew) | (with_reducible apply Ext.drewN) | (with_reducible refine Ext.trans ?_ (by assumption))))) (RatB.ext (by assumption) (by repeat (first | (with_reducible exact Ext.refl _) | (with_reducible apply Ext.drew) | (with_reducible apply Ext.drewN) | (with_reducible refine Ext.trans ?_ (by assumption))))) (by decide)).mono ?_); rintro e wk ⟨rfl, hxk⟩)
              | (go_at_call 13; (with_reducible refine (RatSign_b _ _ _ _ (RatB.ext (by assumption) (by repeat (first | (with_reducible exact Ext.refl _) | (with_reducible apply Ext.drew) | (with_reducible apply Ext.drewN) | (with_reducible refine Ext.trans ?_ (by assumption)))))).mono ?_); rintro e wk ⟨rfl, hxk⟩)
              | (go_at_call 39; (with_reducible refine (RatOf_b _ _ (by first | assumption | decide) (by first | assumption | decide)).mono ?_); rintro e wk ⟨vk, rfl, hbk, hxk⟩; (obtain ⟨pk, Ak, nk, ck, pk', Ak', nk', ck', rfl⟩ := hbk.1.shape))
            )
          all_goals go_wp2_with fail
          all_goals go_ret
          all_goals exact ⟨rfl, hEr.trans (show Later wc _ by first | assumption | (apply Later.drew; assumption) | (apply Later.drewN; assumption))⟩
end Go.Proofs.YteohdiaegnfbaaaDoor.Rt
