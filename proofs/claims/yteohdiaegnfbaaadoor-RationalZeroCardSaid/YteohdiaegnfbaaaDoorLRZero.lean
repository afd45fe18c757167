/- Walk: the law RationalZero. -/
import Derived.Test.YteohdiaegnfbaaaDoorT10
set_option linter.unusedVariables false
set_option linter.unusedSimpArgs false
namespace Go.Proofs.YteohdiaegnfbaaaDoor.Rt
open Go.RowKit Go.Proofs.YteohdiaegnfbaaaDoor.Big
open Go.Lib (itoa)
attribute [local go_sem] Go.World.cell?_alloc_some Go.RowKit.frozen?_alloc_cells

theorem Int_fit (x : Value) (X : Int) (w : World) (hx : BigV w x X) (h0 : -9223372036854775808 ≤ X) (h1 : X ≤ 9223372036854775807) : Calls Tryd.prog 44 #[x] w (fun e w' => e = .returned (.tuple #[.int .i64 X, .bool true]) ∧ Ext w w') := by
  refine (Int_any x X 3 w hx (by unfold pw; omega) (by omega)).mono ?_
  rintro e w' ⟨rfl, h⟩
  have hf : fits X = true := by unfold fits; simp; omega
  rw [hf]
  exact ⟨rfl, h⟩
theorem RatDiv_weak (x y : Value) (X Y : Rat) (j k : Nat) (w : World) (hx : RatB w x X j) (hy : RatB w y Y k) (hL : max j k ≤ 549755813888) : Calls Tryd.prog 43 #[x, y] w (fun e w' => ∃ v er, e = .returned (.tuple #[v, .int .i64 er]) ∧ Ext w w') := by
  by_cases h : Y.num = 0
  · have hY : Y = 0 := Rat.num_eq_zero.1 h
    rw [hY] at hy
    exact (RatDiv_zero x y X j k w hx hy).mono fun e w' ⟨h1, h2⟩ => ⟨_, _, h1, h2⟩
  · exact (RatDiv_b x y X Y j k w hx hy hL h).mono fun e w' ⟨v, h1, _, h2⟩ => ⟨_, _, h1, h2⟩
theorem Text_one (x : Value) (X : Int) (j : Nat) (w : World) (hx : BigB w x X j) (h1 : X = 1) (hL : j ≤ 1099511627776) (ht : TabOK w) : Calls Tryd.prog 18 #[x] w (fun e w' => e = .returned (.string ⟨#[49]⟩) ∧ Ext w w') := by
  refine (Text_b x X j w hx hL ht).mono ?_
  rintro e w' ⟨rfl, h⟩
  rw [h1, show itoa 1 = [49] by simp [Lib.itoa, Lib.decDigits]]
  exact ⟨rfl, h⟩
theorem ratText_zero : (⟨#[48]⟩ : ByteArray) = ⟨(ratText 0).toArray⟩ := by
  have : ratText 0 = [48] := by
    unfold ratText
    rw [if_pos (show (0 : Rat).den = 1 from rfl), show (0 : Rat).num = 0 from rfl]
    simp [Lib.itoa, Lib.decDigits]
  rw [this]
theorem floorZ_zero : (floorZ 0).sign = 0 := by decide +kernel
theorem ceilZ_zero : (ceilZ 0).sign = 0 := by decide +kernel
theorem of_zero : (0 : Rat) = ((0 : Int) : Rat) := rfl

theorem RatParse_weak (s : ByteArray) (w : World) (hmx : MxOK w) : Calls Tryd.prog 12 #[.string s] w (fun e w' => ∃ p A n c p' A' n' c' er, e = .returned (.tuple #[.agg #[.bool p, .slice A n c, .bool p', .slice A' n' c'], .int .i64 er]) ∧ Ext w w') := by
  by_cases h : 4096 < s.size
  · exact (RatParse_full s w h).mono fun e w' ⟨h1, h2⟩ => ⟨_, _, _, _, _, _, _, _, _, h1, h2⟩
  · refine (RatParse_b s 4096 w (by omega) (by omega) (by decide) (by decide) hmx).mono ?_
    rintro e w' ⟨v, X, h1, h2, _, h3⟩
    obtain ⟨p, A, n, c, p', A', n', c', rfl⟩ := h2.1.shape
    exact ⟨_, _, _, _, _, _, _, _, _, h1, h3⟩

set_option maxRecDepth 100000 in
set_option maxHeartbeats 16000000 in
theorem zero_any (s : ByteArray) (n : Int) (w : World) (n0 : -9223372036854775808 ≤ n) (n1 : n ≤ 9223372036854775807) (htab : TabOK w) (hmx : MxOK w) :
    Calls Tryd.prog 10 #[.string s, .int .i64 n] w (fun e w' => e = .returned (.bool true) ∧ Ext w w') := by
  go_enter Tryd.func10, Tryd.ntmps10
  go_wp2_with fail
  refine (RatAwake_any _ htab hmx).mono ?_
  rintro e w1 ⟨rfl, hx1⟩
  go_upto_region 4 with fail
  have hy1 : Ext w1 (w1.alloc (.cells #[.bool false, .slice none 0 0, .bool false, .slice none 0 0] 29)) := (Ext.refl w1).alloc _
  have B5 := Box.new w1 29 #[.bool false, .slice none 0 0, .bool false, .slice none 0 0]
  have hE1 := hx1.trans hy1
  generalize (w1.alloc (.cells #[.bool false, .slice none 0 0, .bool false, .slice none 0 0] 29)) = W1 at *
  clear hx1 hy1
  go_wp2_with fail
  refine (RatOf_b n _ n0 n1).mono ?_
  rintro e w2 ⟨v2, rfl, h2, hx2⟩
  obtain ⟨p2, A2, n2, c2, p2', A2', n2', c2', rfl⟩ := h2.1.shape
  go_upto_region 5 with fail
  have hy2 : Ext w2 (w2.alloc (.cells #[.bool p2, .slice A2 n2 c2, .bool p2', .slice A2' n2' c2'] 29)) := (Ext.refl w2).alloc _
  have B6 := Box.new w2 29 #[.bool p2, .slice A2 n2 c2, .bool p2', .slice A2' n2' c2']
  have h2 := h2.ext hy2
  have hxy := hx2.trans hy2
  have B5 := B5.ext hxy
  have hE2 := hE1.trans hxy
  generalize (w2.alloc (.cells #[.bool p2, .slice A2 n2 c2, .bool p2', .slice A2' n2' c2'] 29)) = W2 at *
  clear hx2 hy2 hxy hE1
  have q0 := B6.c0
  have q1 := B6.c1
  have q2 := B6.c2
  have q3 := B6.c3
  go_wp2_with fail
  refine (RatNum_b _ _ _ _ h2).mono ?_
  rintro e w3 ⟨v3, rfl, h3, hx3⟩
  obtain ⟨p3, A3, n3, c3, rfl⟩ := h3.1.shape
  have h3n : BigV w3 (.agg #[.bool p3, .slice A3 n3 c3]) n := h3.1
  go_wp2_with fail
  refine (Int_fit _ n _ h3n n0 n1).mono ?_
  rintro e w4 ⟨rfl, hx4⟩
  have hM4 : Ext W2 w4 := hx3.trans hx4
  have h2 := h2.ext hM4
  have B5 := B5.ext hM4
  have B6 := B6.ext hM4
  have hE4 := hE2.trans hM4
  clear hx3 hx4 hM4 h3 h3n q0 q1 q2 q3 hE2
  have hTab := htab.ext hE4
  obtain ⟨O, hO⟩ : ∃ q : Rat, q = ((n : Int) : Rat) := ⟨_, rfl⟩
  have hOd : Hid ((O.den : Int) = 1) := Lib.hid (by rw [hO]; rfl)
  rw [← hO] at h2
  obtain ⟨Z, hZ⟩ : ∃ q : Rat, q = 0 := ⟨_, rfl⟩
  have hZB : RatB w4 (.agg #[.bool false, .slice none 0 0, .bool false, .slice none 0 0]) Z 1 := by rw [hZ]; exact ⟨RatV.zero _, QB_zero (by decide)⟩
  have hZd : Hid ((Z.den : Int) = 1) := Lib.hid (by rw [hZ]; rfl)
  have hZO : Hid (Z = ((0 : Int) : Rat)) := Lib.hid (by rw [hZ]; rfl)
  have hZT : Hid ((⟨#[48]⟩ : ByteArray) = ⟨(ratText Z).toArray⟩) := Lib.hid (by rw [hZ]; exact ratText_zero)
  have z1 : (floorZ Z).sign = 0 := by rw [hZ]; exact floorZ_zero
  have z2 : (ceilZ Z).sign = 0 := by rw [hZ]; exact ceilZ_zero
  have HZ := Lib.hid hZ
  clear hO hZ
  go_upto_region 6 with fail
  have k50 : ∀ w', Later w4 w' → w'.cell? ⟨_, 0, none⟩ = some _ := fun w' h => (B5.ext h).c0
  have k51 : ∀ w', Later w4 w' → w'.cell? ⟨_, 1, none⟩ = some _ := fun w' h => (B5.ext h).c1
  have k52 : ∀ w', Later w4 w' → w'.cell? ⟨_, 2, none⟩ = some _ := fun w' h => (B5.ext h).c2
  have k53 : ∀ w', Later w4 w' → w'.cell? ⟨_, 3, none⟩ = some _ := fun w' h => (B5.ext h).c3
  have k60 : ∀ w', Later w4 w' → w'.cell? ⟨_, 0, none⟩ = some _ := fun w' h => (B6.ext h).c0
  have k61 : ∀ w', Later w4 w' → w'.cell? ⟨_, 1, none⟩ = some _ := fun w' h => (B6.ext h).c1
  have k62 : ∀ w', Later w4 w' → w'.cell? ⟨_, 2, none⟩ = some _ := fun w' h => (B6.ext h).c2
  have k63 : ∀ w', Later w4 w' → w'.cell? ⟨_, 3, none⟩ = some _ := fun w' h => (B6.ext h).c3
  have hS0 := Later.refl w4
  go_cut [64] (fun v wx => v = .bool false ∧ Later w4 wx)
  case first =>
    go_region_held3 (fun w' => Later w4 w') ((repeat (first | assumption | apply Later.drew | apply Later.drewN | apply Later.alloc | (refine Later.step ?_ (by assumption))))) (first
      | (go_at_call 24; (with_reducible refine (RatSame_eq _ _ _ _ _ _ _ (RatB.ext (by assumption) (by repeat (first | (with_reducible exact Ext.refl _) | (with_reducible apply Ext.drew) | (with_reducible apply Ext.drewN) | (with_reducible refine Ext.trans ?_ (by assumption))))) (RatB.ext (by assumption) (by repeat (first | (with_reducible exact Ext.refl _) | (with_reducible apply Ext.drew) | (with_reducible apply Ext.drewN) | (with_reducible refine Ext.trans ?_ (by assumption))))) (by decide) (TabOK.ext hTab (by repeat (first | (with_reducible exact Ext.refl _) | (with_reducible apply Ext.drew) | (with_reducible apply Ext.drewN) | (with_reducible refine Ext.trans ?_ (by assumption))))) hZO.out).mono ?_); rintro e wk ⟨rfl, hxk⟩)
        | (go_at_call 14; (with_reducible refine (RatText_n _ _ _ _ ⟨#[48]⟩ hZT.out (hZB.ext (by repeat (first | (with_reducible exact Ext.refl _) | (with_reducible apply Ext.drew) | (with_reducible apply Ext.drewN) | (with_reducible refine Ext.trans ?_ (by assumption))))) (by decide) (TabOK.ext hTab (by repeat (first | (with_reducible exact Ext.refl _) | (with_reducible apply Ext.drew) | (with_reducible apply Ext.drewN) | (with_reducible refine Ext.trans ?_ (by assumption)))))).mono ?_); rintro e wk ⟨rfl, hxk⟩)
      | (go_at_call 20; (with_reducible refine (RatDen_b _ _ _ _ (RatB.ext (by assumption) (by repeat (first | (with_reducible exact Ext.refl _) | (with_reducible apply Ext.drew) | (with_reducible apply Ext.drewN) | (with_reducible refine Ext.trans ?_ (by assumption)))))).mono ?_); rintro e wk ⟨vk, rfl, hbk, hxk⟩; (obtain ⟨pk, Ak, nk, ck, rfl⟩ := hbk.1.shape))
      | (go_at_call 18; (with_reducible refine (Text_one _ _ _ _ (BigB.ext (by assumption) (by repeat (first | (with_reducible exact Ext.refl _) | (with_reducible apply Ext.drew) | (with_reducible apply Ext.drewN) | (with_reducible refine Ext.trans ?_ (by assumption))))) (by first | exact hZd.out | exact hOd.out) (by decide) (TabOK.ext hTab (by repeat (first | (with_reducible exact Ext.refl _) | (with_reducible apply Ext.drew) | (with_reducible apply Ext.drewN) | (with_reducible refine Ext.trans ?_ (by assumption)))))).mono ?_); rintro e wk ⟨rfl, hxk⟩)
      | (go_at_call 33; (with_reducible refine (RatFloor_b _ _ _ _ (RatB.ext (by assumption) (by repeat (first | (with_reducible exact Ext.refl _) | (with_reducible apply Ext.drew) | (with_reducible apply Ext.drewN) | (with_reducible refine Ext.trans ?_ (by assumption))))) (by decide)).mono ?_); rintro e wk ⟨vk, rfl, hbk, hxk⟩; (obtain ⟨pk, Ak, nk, ck, rfl⟩ := hbk.1.shape))
      | (go_at_call 34; (with_reducible refine (RatCeil_b _ _ _ _ (RatB.ext (by assumption) (by repeat (first | (with_reducible exact Ext.refl _) | (with_reducible apply Ext.drew) | (with_reducible apply Ext.drewN) | (with_reducible refine Ext.trans ?_ (by assumption))))) (by decide)).mono ?_); rintro e wk ⟨vk, rfl, hbk, hxk⟩; (obtain ⟨pk, Ak, nk, ck, rfl⟩ := hbk.1.shape))
      | (go_at_call 28; (with_reducible refine (Sign_b _ _ _ _ (BigB.ext (by assumption) (by repeat (first | (with_reducible exact Ext.refl _) | (with_reducible apply Ext.drew) | (with_reducible apply Ext.drewN) | (with_reducible refine Ext.trans ?_ (by assumption)))))).mono ?_); rintro e wk ⟨rfl, hxk⟩)
        | (go_at_call 41; (with_reducible refine (RatAdd_b _ _ _ _ _ _ _ (RatB.ext (by assumption) (by repeat (first | (with_reducible exact Ext.refl _) | (with_reducible apply Ext.drew) | (with_reducible apply Ext.drewN) | (with_reducible refine Ext.trans ?_ (by assumption))))) (RatB.ext (by assumption) (by repeat (first | (with_reducible exact Ext.refl _) | (with_reducible apply Ext.drew) | (with_reducible apply Ext.drewN) | (with_reducible refine Ext.trans ?_ (by assumption))))) (by decide)).mono ?_); rintro e wk ⟨vk, rfl, hbk, hxk⟩; (obtain ⟨pk, Ak, nk, ck, pk', Ak', nk', ck', rfl⟩ := hbk.1.shape))
        | (go_at_call 38; (with_reducible refine (RatSub_b _ _ _ _ _ _ _ (RatB.ext (by assumption) (by repeat (first | (with_reducible exact Ext.refl _) | (with_reducible apply Ext.drew) | (with_reducible apply Ext.drewN) | (with_reducible refine Ext.trans ?_ (by assumption))))) (RatB.ext (by assumption) (by repeat (first | (with_reducible exact Ext.refl _) | (with_reducible apply Ext.drew) | (with_reducible apply Ext.drewN) | (with_reducible refine Ext.trans ?_ (by assumption))))) (by decide)).mono ?_); rintro e wk ⟨vk, rfl, hbk, hxk⟩; (obtain ⟨pk, Ak, nk, ck, pk', Ak', nk', ck', rfl⟩ := hbk.1.shape))
        | (go_at_call 42; (with_reducible refine (RatMul_b _ _ _ _ _ _ _ (RatB.ext (by assumption) (by repeat (first | (with_reducible exact Ext.refl _) | (with_reducible apply Ext.drew) | (with_reducible apply Ext.drewN) | (with_reducible refine Ext.trans ?_ (by assumption))))) (RatB.ext (by assumption) (by repeat (first | (with_reducible exact Ext.refl _) | (with_reducible apply Ext.drew) | (with_reducible apply Ext.drewN) | (with_reducible refine Ext.trans ?_ (by assumption))))) (by decide)).mono ?_); rintro e wk ⟨vk, rfl, hbk, hxk⟩; (obtain ⟨pk, Ak, nk, ck, pk', Ak', nk', ck', rfl⟩ := hbk.1.shape))
        | (go_at_call 36; (with_reducible refine (RatNeg_b _ _ _ _ (RatB.ext (by assumption) (by repeat (first | (with_reducible exact Ext.refl _) | (with_reducible apply Ext.drew) | (with_reducible apply Ext.drewN) | (with_reducible refine Ext.trans ?_ (by assumption)))))).mono ?_); rintro e wk ⟨vk, rfl, hbk, hxk⟩; (obtain ⟨pk, Ak, nk, ck, pk', Ak', nk', ck', rfl⟩ := hbk.1.shape))
        | (go_at_call 35; (with_reducible refine (RatCmp_b _ _ _ _ _ _ _ (RatB.ext (by assumption) (by repeat (first | (with_reducible exact Ext.refl _) | (with_reducible apply Ext.drew) | (with_reducible apply Ext.drewN) | (with_reducible refine Ext.trans ?_ (by assumption))))) (RatB.ext (by assumption) (by repeat (first | (with_reducible exact Ext.refl _) | (with_reducible apply Ext.drew) | (with_reducible apply Ext.drewN) | (with_reducible refine Ext.trans ?_ (by assumption))))) (by decide)).mono ?_); rintro e wk ⟨rfl, hxk⟩)
        | (go_at_call 13; (with_reducible refine (RatSign_b _ _ _ _ (RatB.ext (by assumption) (by repeat (first | (with_reducible exact Ext.refl _) | (with_reducible apply Ext.drew) | (with_reducible apply Ext.drewN) | (with_reducible refine Ext.trans ?_ (by assumption)))))).mono ?_); rintro e wk ⟨rfl, hxk⟩)
        | (go_at_call 39; (with_reducible refine (RatOf_b _ _ (by first | assumption | decide) (by first | assumption | decide)).mono ?_); rintro e wk ⟨vk, rfl, hbk, hxk⟩; (obtain ⟨pk, Ak, nk, ck, pk', Ak', nk', ck', rfl⟩ := hbk.1.shape))
      )
    all_goals (go_wp2_with fail; go_meet)
    all_goals exact ⟨rfl, by assumption⟩
  case rest =>
    obtain ⟨rfl, hL⟩ := hcut
    have hM : Ext w4 wc := hL
    have h2 := h2.ext hM
    have hZB := hZB.ext hM
    have B5 := B5.ext hM
    have B6 := B6.ext hM
    have hE := hE4.trans hM
    have hTab := hTab.ext hM
    clear k50 k51 k52 k53 k60 k61 k62 k63 hS0 hE4 hM hL z1 z2
    by_cases hs : s.size ≤ 200
    case neg =>
      have e1 : decide ((200 : Int) < s.size) = true := by simp; omega
      clear hs
      go_wp2_with fail
      refine (RatParse_weak s _ (hmx.ext hE)).mono ?_
      rintro e w5 ⟨p, A, n, c, p', A', n', c', er, rfl, hx5⟩
      go_wp2_with fail
      refine (long_any s _).mono ?_
      rintro e w6 ⟨rfl, rfl⟩
      go_wp2_with fail
      go_ret
      exact ⟨rfl, (hE.trans hx5).alloc _⟩
    case pos =>
      have e1 : decide ((200 : Int) < s.size) = false := by simp; omega
      go_wp2_with fail
      refine (RatParse_b s 200 _ (by omega) (by omega) (by decide) (by decide) (hmx.ext hE)).mono ?_
      rintro e w5 ⟨v5, X, rfl, h5, hXv, hx5⟩
      obtain ⟨p5, A5, n5, c5, p5', A5', n5', c5', rfl⟩ := h5.1.shape
      obtain ⟨o2, ho2⟩ : ∃ o, o = isRat s.data.toList := ⟨_, rfl⟩
      obtain ⟨es, hes⟩ : ∃ es : Int, es = (if isRat s.data.toList = true then 0 else 3) := ⟨_, rfl⟩
      rw [← hes]
      rw [← ho2] at hes hXv
      have hde : (es != 0) = !o2 := by rw [hes]; cases o2 <;> rfl
      have HO2 := Lib.hid ho2
      have HXV := Lib.hid hXv
      clear ho2 hXv hes hs
      go_upto_region 9 with fail
      have hy5 : Ext w5 (w5.alloc (.cells #[.bool p5, .slice A5 n5 c5, .bool p5', .slice A5' n5' c5'] 29)) := (Ext.refl w5).alloc _
      have B9 := Box.new w5 29 #[.bool p5, .slice A5 n5 c5, .bool p5', .slice A5' n5' c5']
      have hX := h5.ext hy5
      have hxy := hx5.trans hy5
      have h2 := h2.ext hxy
      have hZB := hZB.ext hxy
      have B5 := B5.ext hxy
      have B6 := B6.ext hxy
      have hTab := hTab.ext hxy
      have hE := hE.trans hxy
      generalize (w5.alloc (.cells #[.bool p5, .slice A5 n5 c5, .bool p5', .slice A5' n5' c5'] 29)) = W at *
      clear hx5 hy5 hxy h5
      go_wp2_with fail
      refine (long_any s _).mono ?_
      rintro e w6 ⟨rfl, rfl⟩
      cases o2
      case false =>
        go_wp2_with fail
        go_ret
        exact ⟨rfl, hE⟩
      have hXs := HXV.out rfl
      have HST := Lib.hid (show s = ⟨(ratText X).toArray⟩ by rw [hXs, text_parse HO2.out.symm])
      have HZX := Lib.hid (show X + Z = X by rw [HZ.out]; exact Rat.add_zero X)
      have HZM := Lib.hid (show (X * Z).num.sign = 0 by rw [HZ.out, Rat.mul_zero]; rfl)
      have HZS := Lib.hid (show Z - X = -X by rw [HZ.out, Rat.sub_eq_add_neg, Rat.zero_add])
      clear hXs
      have k50 : ∀ w', Later W w' → w'.cell? ⟨_, 0, none⟩ = some _ := fun w' h => (B5.ext h).c0
      have k51 : ∀ w', Later W w' → w'.cell? ⟨_, 1, none⟩ = some _ := fun w' h => (B5.ext h).c1
      have k52 : ∀ w', Later W w' → w'.cell? ⟨_, 2, none⟩ = some _ := fun w' h => (B5.ext h).c2
      have k53 : ∀ w', Later W w' → w'.cell? ⟨_, 3, none⟩ = some _ := fun w' h => (B5.ext h).c3
      have k60 : ∀ w', Later W w' → w'.cell? ⟨_, 0, none⟩ = some _ := fun w' h => (B6.ext h).c0
      have k61 : ∀ w', Later W w' → w'.cell? ⟨_, 1, none⟩ = some _ := fun w' h => (B6.ext h).c1
      have k62 : ∀ w', Later W w' → w'.cell? ⟨_, 2, none⟩ = some _ := fun w' h => (B6.ext h).c2
      have k63 : ∀ w', Later W w' → w'.cell? ⟨_, 3, none⟩ = some _ := fun w' h => (B6.ext h).c3
      have k90 : ∀ w', Later W w' → w'.cell? ⟨_, 0, none⟩ = some _ := fun w' h => (B9.ext h).c0
      have k91 : ∀ w', Later W w' → w'.cell? ⟨_, 1, none⟩ = some _ := fun w' h => (B9.ext h).c1
      have k92 : ∀ w', Later W w' → w'.cell? ⟨_, 2, none⟩ = some _ := fun w' h => (B9.ext h).c2
      have k93 : ∀ w', Later W w' → w'.cell? ⟨_, 3, none⟩ = some _ := fun w' h => (B9.ext h).c3
      have hL0 : Later W W := Later.refl W
      have hM0 : Ext W W := Ext.refl W
      go_wp2_with fail
      refine (RatAdd_b _ _ _ _ _ _ _ hX h2 (by decide)).mono ?_
      rintro e wa ⟨va, rfl, ha, hxa⟩
      have hLa : Later W wa := Later.step hL0 hxa
      have hMa : Ext W wa := hLa
      go_wp2_with fail
      refine (RatMul_b _ _ _ _ _ _ _ (hX.ext hMa) (h2.ext hMa) (by decide)).mono ?_
      rintro e wb ⟨vb, rfl, hb, hxb⟩
      have hLb : Later W wb := Later.step hLa hxb
      have hMb : Ext W wb := hLb
      go_wp2_with fail
      refine (RatNeg_b _ _ _ _ (hX.ext hMb)).mono ?_
      rintro e wc ⟨vc, rfl, hc, hxc⟩
      have hLc : Later W wc := Later.step hLb hxc
      have hMc : Ext W wc := hLc
      go_wp2_with fail
      refine (RatDiv_weak _ _ _ _ _ _ _ (hX.ext hMc) (h2.ext hMc) (by decide)).mono ?_
      rintro e wd ⟨vd, er, rfl, hxd⟩
      have hLd : Later W wd := Later.step hLc hxd
      have hMd : Ext W wd := hLd
      go_wp2_with fail
      refine (RatSub_b _ _ _ _ _ _ _ (hX.ext hMd) (hX.ext hMd) (by decide)).mono ?_
      rintro e we ⟨ve, rfl, he, hxe⟩
      have hLe : Later W we := Later.step hLd hxe
      have hMe : Ext W we := hLe
      go_wp2_with fail
      refine (RatDiv_zero _ _ X _ _ _ (hX.ext hMe) (by have := hZB.ext hMe; rw [HZ.out] at this; exact this)).mono ?_
      rintro e wf ⟨rfl, hxf⟩
      have hLf : Later W wf := Later.step hLe hxf
      have hMf : Ext W wf := hLf
      unfold zeroRat
      go_upto_region 17 with fail
      have hMg := hMf.alloc (.cells #[.bool false, .slice none 0 0, .bool false, .slice none 0 0] 29)
      have hX := hX.ext hMg
      have hZB := hZB.ext hMg
      have B5 := B5.ext hMg
      have B9 := B9.ext hMg
      have hTab := hTab.ext hMg
      have hE := hE.trans hMg
      clear k50 k51 k52 k53 k60 k61 k62 k63 k90 k91 k92 k93 hL0 hM0 hLa hMa hLb hMb hLc hMc hLd hMd hLe hMe hLf hMf hMg ha hb hc he hxa hxb hxc hxd hxe hxf h2 B6
      generalize (wf.alloc (.cells #[.bool false, .slice none 0 0, .bool false, .slice none 0 0] 29)) = V at *
      have k50 : ∀ w', Later V w' → w'.cell? ⟨_, 0, none⟩ = some _ := fun w' h => (B5.ext h).c0
      have k51 : ∀ w', Later V w' → w'.cell? ⟨_, 1, none⟩ = some _ := fun w' h => (B5.ext h).c1
      have k52 : ∀ w', Later V w' → w'.cell? ⟨_, 2, none⟩ = some _ := fun w' h => (B5.ext h).c2
      have k53 : ∀ w', Later V w' → w'.cell? ⟨_, 3, none⟩ = some _ := fun w' h => (B5.ext h).c3
      have k90 : ∀ w', Later V w' → w'.cell? ⟨_, 0, none⟩ = some _ := fun w' h => (B9.ext h).c0
      have k91 : ∀ w', Later V w' → w'.cell? ⟨_, 1, none⟩ = some _ := fun w' h => (B9.ext h).c1
      have k92 : ∀ w', Later V w' → w'.cell? ⟨_, 2, none⟩ = some _ := fun w' h => (B9.ext h).c2
      have k93 : ∀ w', Later V w' → w'.cell? ⟨_, 3, none⟩ = some _ := fun w' h => (B9.ext h).c3
      have z3 : (X * Z).num.sign = 0 := HZM.out
      have hS0 := Later.refl V
      go_region_held3 (fun w' => Later V w') ((repeat (first | assumption | apply Later.drew | apply Later.drewN | apply Later.alloc | (refine Later.step ?_ (by assumption))))) (first
        | (go_at_call 24; (with_reducible refine (RatSame_eq _ _ _ _ _ _ _ (RatB.ext (by assumption) (by repeat (first | (with_reducible exact Ext.refl _) | (with_reducible apply Ext.drew) | (with_reducible apply Ext.drewN) | (with_reducible refine Ext.trans ?_ (by assumption))))) (RatB.ext (by assumption) (by repeat (first | (with_reducible exact Ext.refl _) | (with_reducible apply Ext.drew) | (with_reducible apply Ext.drewN) | (with_reducible refine Ext.trans ?_ (by assumption))))) (by decide) (TabOK.ext hTab (by repeat (first | (with_reducible exact Ext.refl _) | (with_reducible apply Ext.drew) | (with_reducible apply Ext.drewN) | (with_reducible refine Ext.trans ?_ (by assumption))))) (by first | exact HZX.out | exact HZS.out)).mono ?_); rintro e wk ⟨rfl, hxk⟩)
          | (go_at_call 14; (with_reducible refine (RatText_n _ _ _ _ s HST.out (hX.ext (by repeat (first | (with_reducible exact Ext.refl _) | (with_reducible apply Ext.drew) | (with_reducible apply Ext.drewN) | (with_reducible refine Ext.trans ?_ (by assumption))))) (by decide) (TabOK.ext hTab (by repeat (first | (with_reducible exact Ext.refl _) | (with_reducible apply Ext.drew) | (with_reducible apply Ext.drewN) | (with_reducible refine Ext.trans ?_ (by assumption)))))).mono ?_); rintro e wk ⟨rfl, hxk⟩)
          | (go_at_call 41; (with_reducible refine (RatAdd_b _ _ _ _ _ _ _ (RatB.ext (by assumption) (by repeat (first | (with_reducible exact Ext.refl _) | (with_reducible apply Ext.drew) | (with_reducible apply Ext.drewN) | (with_reducible refine Ext.trans ?_ (by assumption))))) (RatB.ext (by assumption) (by repeat (first | (with_reducible exact Ext.refl _) | (with_reducible apply Ext.drew) | (with_reducible apply Ext.drewN) | (with_reducible refine Ext.trans ?_ (by assumption))))) (by decide)).mono ?_); rintro e wk ⟨vk, rfl, hbk, hxk⟩; (obtain ⟨pk, Ak, nk, ck, pk', Ak', nk', ck', rfl⟩ := hbk.1.shape))
          | (go_at_call 38; (with_reducible refine (RatSub_b _ _ _ _ _ _ _ (RatB.ext (by assumption) (by repeat (first | (with_reducible exact Ext.refl _) | (with_reducible apply Ext.drew) | (with_reducible apply Ext.drewN) | (with_reducible refine Ext.trans ?_ (by assumption))))) (RatB.ext (by assumption) (by repeat (first | (with_reducible exact Ext.refl _) | (with_reducible apply Ext.drew) | (with_reducible apply Ext.drewN) | (with_reducible refine Ext.trans ?_ (by assumption))))) (by decide)).mono ?_); rintro e wk ⟨vk, rfl, hbk, hxk⟩; (obtain ⟨pk, Ak, nk, ck, pk', Ak', nk', ck', rfl⟩ := hbk.1.shape))
          | (go_at_call 42; (with_reducible refine (RatMul_b _ _ _ _ _ _ _ (RatB.ext (by assumption) (by repeat (first | (with_reducible exact Ext.refl _) | (with_reducible apply Ext.drew) | (with_reducible apply Ext.drewN) | (with_reducible refine Ext.trans ?_ (by assumption))))) (RatB.ext (by assumption) (by repeat (first | (with_reducible exact Ext.refl _) | (with_reducible apply Ext.drew) | (with_reducible apply Ext.drewN) | (with_reducible refine Ext.trans ?_ (by assumption))))) (by decide)).mono ?_); rintro e wk ⟨vk, rfl, hbk, hxk⟩; (obtain ⟨pk, Ak, nk, ck, pk', Ak', nk', ck', rfl⟩ := hbk.1.shape))
          | (go_at_call 36; (with_reducible refine (RatNeg_b _ _ _ _ (RatB.ext (by assumption) (by repeat (first | (with_reducible exact Ext.refl _) | (with_reducible apply Ext.drew) | (with_reducible apply Ext.drewN) | (with_reducible refine Ext.trans ?_ (by assumption)))))).mono ?_); rintro e wk ⟨vk, rfl, hbk, hxk⟩; (obtain ⟨pk, Ak, nk, ck, pk', Ak', nk', ck', rfl⟩ := hbk.1.shape))
          | (go_at_call 35; (with_reducible refine (RatCmp_b _ _ _ _ _ _ _ (RatB.ext (by assumption) (by repeat (first | (with_reducible exact Ext.refl _) | (with_reducible apply Ext.drew) | (with_reducible apply Ext.drewN) | (with_reducible refine Ext.trans ?_ (by assumption))))) (RatB.ext (by assumption) (by repeat (first | (with_reducible exact Ext.refl _) | (with_reducible apply Ext.drew) | (with_reducible apply Ext.drewN) | (with_reducible refine Ext.trans ?_ (by assumption))))) (by decide)).mono ?_); rintro e wk ⟨rfl, hxk⟩)
          | (go_at_call 13; (with_reducible refine (RatSign_b _ _ _ _ (RatB.ext (by assumption) (by repeat (first | (with_reducible exact Ext.refl _) | (with_reducible apply Ext.drew) | (with_reducible apply Ext.drewN) | (with_reducible refine Ext.trans ?_ (by assumption)))))).mono ?_); rintro e wk ⟨rfl, hxk⟩)
          | (go_at_call 39; (with_reducible refine (RatOf_b _ _ (by first | assumption | decide) (by first | assumption | decide)).mono ?_); rintro e wk ⟨vk, rfl, hbk, hxk⟩; (obtain ⟨pk, Ak, nk, ck, pk', Ak', nk', ck', rfl⟩ := hbk.1.shape))
        )
      all_goals go_wp2_with fail
      all_goals go_ret
      all_goals exact ⟨rfl, hE.trans (show Later V _ by first | assumption | (apply Later.drew; assumption) | (apply Later.drewN; assumption))⟩
end Go.Proofs.YteohdiaegnfbaaaDoor.Rt
