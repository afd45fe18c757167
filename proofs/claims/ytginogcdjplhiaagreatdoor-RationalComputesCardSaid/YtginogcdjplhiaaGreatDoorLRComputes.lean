/- Walk: the law RationalComputes. -/
import Derived.Test.YtginogcdjplhiaaGreatDoorF7
import Derived.Test.YtginogcdjplhiaaGreatDoorT10
set_option linter.unusedVariables false
set_option linter.unusedSimpArgs false
namespace Go.Proofs.YtginogcdjplhiaaGreatDoor.Ten
open Go.RowKit Go.Proofs.YtginogcdjplhiaaGreatDoor.Big Go.Proofs.YtginogcdjplhiaaGreatDoor.Rt
open Go.Lib (itoa)

theorem rat_BT {l : List UInt8} {k : Nat} (hk : 0 < k) (h : isRat l = true) (hl : l.length ≤ k) : BT k (parseQ l).num ∧ BT k ((parseQ l).den : Int) := by
  obtain ⟨z1, z2⟩ := cut_sizes l
  unfold isRat at h
  unfold parseQ
  cases e : (Lib.cut l [47]).2.2 with
  | false =>
    rw [e] at h
    exact BT_redP (parse_boundTL (by omega) (by simpa using h)) (Nat.lt_of_lt_of_le (show Int.natAbs 1 < pt 1 by decide) (pt_mono hk)) (by simp)
  | true =>
    rw [e] at h
    simp only [if_true, Bool.and_eq_true, decide_eq_true_eq] at h
    obtain ⟨⟨⟨h1, h2⟩, h3⟩, _⟩ := h
    exact BT_redP (parse_boundTL (by omega) h1) (parse_boundTL (by omega) h2) (by simp; omega)
theorem RatText_m (x : Value) (q : Rat) (k : Nat) (w : World) (S : ByteArray) (hx : RatB w x q k) (hL : k ≤ 549755813888) (htab : TabOK w) (hS : S = ⟨(ratText q).toArray⟩) : Calls Tryz.prog 10 #[x] w (fun e w' => e = .returned (.string S) ∧ Ext w w') := RatText_n x q k w S hS hx hL htab
theorem FText_m (x : Value) (q : Rat) (L : Nat) (w : World) (S : ByteArray) (hx : FracB w x q L) (hL0 : 0 < L) (hL : L ≤ 10000000000) (hS : S = ⟨(ratText q).toArray⟩) : Calls Tryz.prog 11 #[x] w (fun e w' => e = .returned (.string S) ∧ Ext w w') := FText_n' x q L w S hS hx.1 hx.2.1 hx.2.2 hL0 hL
theorem TextZ_m (x : Value) (X : Int) (j : Nat) (w : World) (S : ByteArray) (hS : S = ⟨(itoa X).toArray⟩) (hx : BigB w x X j) (hL : j ≤ 1099511627776) (ht : TabOK w) : Calls Tryz.prog 23 #[x] w (fun e w' => e = .returned (.string S) ∧ Ext w w') := by
  subst hS; exact Big.Text_b x X j w hx hL ht
theorem RText_m (x : Value) (X : Int) (j : Nat) (w : World) (S : ByteArray) (hS : S = ⟨(itoa X).toArray⟩) (hx : NumB w x X j) (hL : j ≤ 100000000000) : Calls Tryz.prog 24 #[x] w (fun e w' => e = .returned (.string S) ∧ Ext w w') := by
  subst hS; exact RText_b x X j w hx hL

theorem RatDiv_both (x y : Value) (X Y : Rat) (j k : Nat) (w : World) (hx : RatB w x X j) (hy : RatB w y Y k) (hL : max j k ≤ 549755813888) : Calls Tryz.prog 8 #[x, y] w (fun e w' => ∃ p A n c p' A' n' c' er, e = .returned (.tuple #[.agg #[.bool p, .slice A n c, .bool p', .slice A' n' c'], .int .i64 er]) ∧ (Y.num = 0 → er = 9 ∧ RatB w' (.agg #[.bool p, .slice A n c, .bool p', .slice A' n' c']) 0 1) ∧ (Y.num ≠ 0 → er = 0 ∧ RatB w' (.agg #[.bool p, .slice A n c, .bool p', .slice A' n' c']) (X / Y) (j + k)) ∧ Ext w w') := by
  by_cases h : Y.num = 0
  · have hY : Y = 0 := Rat.num_eq_zero.1 h
    have hy' := hy
    rw [hY] at hy'
    refine (RatDiv_zero x y X j k w hx hy').mono ?_
    rintro e w' ⟨rfl, h2⟩
    exact ⟨_, _, _, _, _, _, _, _, _, rfl, fun _ => ⟨rfl, RatV.zero _, QB_zero (by decide)⟩, fun h' => absurd h h', h2⟩
  · refine (RatDiv_b x y X Y j k w hx hy hL h).mono ?_
    rintro e w' ⟨v, rfl, hv, h2⟩
    obtain ⟨p6, A6, n6, c6, p6', A6', n6', c6', rfl⟩ := hv.1.shape
    exact ⟨_, _, _, _, _, _, _, _, _, rfl, fun h' => absurd h' h, fun _ => ⟨rfl, hv⟩, h2⟩

set_option maxRecDepth 100000 in
set_option maxHeartbeats 32000000 in
theorem computes_any (s t : ByteArray) (w : World) (htab : TabOK w) (hmx : MxOK w) :
    Calls Tryz.prog 3 #[.string s, .string t] w (fun e w' => e = .returned (.bool true) ∧ Ext w w') := by
  go_enter Tryz.func3, Tryz.ntmps3
  go_wp2_with fail
  refine (RatAwake_any _ htab hmx).mono ?_
  rintro e w1 ⟨rfl, hx1⟩
  go_wp2_with fail
  refine (long_any s _).mono ?_
  rintro e w' ⟨rfl, rfl⟩
  obtain ⟨bl, hbl⟩ : ∃ b, b = decide ((200 : Int) < s.size) := ⟨_, rfl⟩
  rw [← hbl]
  have HBL := Lib.hid hbl
  clear hbl
  cases bl
  case true =>
    go_wp2_with fail
    go_ret
    exact ⟨rfl, hx1⟩
  have ns : s.size ≤ 200 := by have := HBL.out; simp at this; omega
  clear HBL
  go_wp2_with fail
  refine (long_any t _).mono ?_
  rintro e w' ⟨rfl, rfl⟩
  obtain ⟨bl, hbl⟩ : ∃ b, b = decide ((200 : Int) < t.size) := ⟨_, rfl⟩
  rw [← hbl]
  have HBL := Lib.hid hbl
  clear hbl
  cases bl
  case true =>
    go_wp2_with fail
    go_ret
    exact ⟨rfl, hx1⟩
  have nt : t.size ≤ 200 := by have := HBL.out; simp at this; omega
  clear HBL
  go_wp2_with fail
  refine (RatTwo_any s t 200 _ (by omega) (by omega) (by omega) (by omega) (by decide) (by decide) (hmx.ext hx1)).mono ?_
  rintro e w2 ⟨v2, v3, X, Y, rfl, hX0, hY0, hXv, hYv, hx2⟩
  obtain ⟨p2, A2, k2, c2, p2', A2', k2', c2', rfl⟩ := hX0.1.shape
  obtain ⟨p3, A3, k3, c3, p3', A3', k3', c3', rfl⟩ := hY0.1.shape
  obtain ⟨ds, hds⟩ : ∃ o, o = isRat s.data.toList := ⟨_, rfl⟩
  obtain ⟨dt, hdt⟩ : ∃ o, o = isRat t.data.toList := ⟨_, rfl⟩
  rw [← hds] at hXv ⊢
  rw [← hdt] at hYv ⊢
  have HDS := Lib.hid hds
  have HDT := Lib.hid hdt
  have HXV := Lib.hid hXv
  have HYV := Lib.hid hYv
  clear hds hdt hXv hYv
  go_upto_region 6 with fail
  obtain ⟨B5, B6, hE⟩ := boxesT2 w2 28 28 #[.bool p2, .slice A2 k2 c2, .bool p2', .slice A2' k2' c2'] #[.bool p3, .slice A3 k3 c3, .bool p3', .slice A3' k3' c3']
  have hX := hX0.ext hE
  have hY := hY0.ext hE
  have hE := (hx1.trans hx2).trans hE
  generalize ((w2.alloc (.cells #[.bool p2, .slice A2 k2 c2, .bool p2', .slice A2' k2' c2'] 28)).alloc (.cells #[.bool p3, .slice A3 k3 c3, .bool p3', .slice A3' k3' c3'] 28)) = V at *
  clear hx1 hx2 hX0 hY0
  go_wp2_with fail
  refine (FParse_any s _ ns).mono ?_
  rintro e w3 ⟨u, rfl, ⟨s4, A4, n4, c4, s4', A4', n4', c4', rfl⟩, hu, hx3⟩
  rw [← HDS.out] at hu ⊢
  have HU := Lib.hid hu
  clear hu
  go_upto_region 7 with fail
  have hy3 : Ext w3 (w3.alloc (.cells #[.int .i64 s4, .slice A4 n4 c4, .int .i64 s4', .slice A4' n4' c4'] 35)) := (Ext.refl w3).alloc _
  have B8 := Box.new w3 35 #[.int .i64 s4, .slice A4 n4 c4, .int .i64 s4', .slice A4' n4' c4']
  have HU := Lib.hid (fun h => (HU.out h).ext hy3)
  have hxy := hx3.trans hy3
  have hX := hX.ext hxy
  have hY := hY.ext hxy
  have B5 := B5.ext hxy
  have B6 := B6.ext hxy
  have hE := hE.trans hxy
  generalize (w3.alloc (.cells #[.int .i64 s4, .slice A4 n4 c4, .int .i64 s4', .slice A4' n4' c4'] 35)) = V3 at *
  clear hx3 hy3 hxy
  go_wp2_with fail
  refine (FParse_any t _ nt).mono ?_
  rintro e w4 ⟨v, rfl, ⟨s5, A5, n5, c5, s5', A5', n5', c5', rfl⟩, hv, hx4⟩
  rw [← HDT.out] at hv ⊢
  have HV := Lib.hid hv
  clear hv
  go_upto_region 8 with fail
  have hy4 : Ext w4 (w4.alloc (.cells #[.int .i64 s5, .slice A5 n5 c5, .int .i64 s5', .slice A5' n5' c5'] 35)) := (Ext.refl w4).alloc _
  have B10 := Box.new w4 35 #[.int .i64 s5, .slice A5 n5 c5, .int .i64 s5', .slice A5' n5' c5']
  have hxy := hx4.trans hy4
  have HV := Lib.hid (fun h => (HV.out h).ext hy4)
  have HU := Lib.hid (fun h => (HU.out h).ext hxy)
  have hX := hX.ext hxy
  have hY := hY.ext hxy
  have B5 := B5.ext hxy
  have B6 := B6.ext hxy
  have B8 := B8.ext hxy
  have hE := hE.trans hxy
  generalize (w4.alloc (.cells #[.int .i64 s5, .slice A5 n5 c5, .int .i64 s5', .slice A5' n5' c5'] 35)) = W at *
  clear hx4 hy4 hxy
  cases ds
  case false =>
    go_wp2_with fail
    go_ret
    exact ⟨rfl, hE⟩
  cases dt
  case false =>
    go_wp2_with fail
    go_ret
    exact ⟨rfl, hE⟩
  have hXs := HXV.out rfl
  have hYs := HYV.out rfl
  obtain ⟨tx1, tx2⟩ := rat_BT (k := 200) (by decide) HDS.out.symm ns
  obtain ⟨ty1, ty2⟩ := rat_BT (k := 200) (by decide) HDT.out.symm nt
  have hu : FracB W (.agg #[.int .i64 s4, .slice A4 n4 c4, .int .i64 s4', .slice A4' n4' c4']) X 200 := by rw [hXs]; exact ⟨HU.out rfl, tx1, tx2⟩
  have hv : FracB W (.agg #[.int .i64 s5, .slice A5 n5 c5, .int .i64 s5', .slice A5' n5' c5']) Y 200 := by rw [hYs]; exact ⟨HV.out rfl, ty1, ty2⟩
  clear hXs hYs tx1 tx2 ty1 ty2 HU HV HXV HYV
  have hTab := htab.ext hE
  go_upto_region 12 with fail
  have k50 := B5.c0
  have k51 := B5.c1
  have k52 := B5.c2
  have k53 := B5.c3
  have k60 := B6.c0
  have k61 := B6.c1
  have k62 := B6.c2
  have k63 := B6.c3
  go_wp2_with fail
  refine (RatDiv_both _ _ X Y 200 200 _ hX hY (by decide)).mono ?_
  rintro e w5 ⟨p6, A6, n6, c6, p6', A6', n6', c6', er, rfl, hZ0, hZ1, hx5⟩
  have HZ0 := Lib.hid hZ0
  have HZ1 := Lib.hid hZ1
  clear hZ0 hZ1
  go_upto_region 13 with fail
  rename_i hK1 K2 hK
  have hy5 : Ext w5 (w5.alloc (.cells #[.bool p6, .slice A6 n6 c6, .bool p6', .slice A6' n6' c6'] 28)) := (Ext.refl w5).alloc _
  have B12 := Box.new w5 28 #[.bool p6, .slice A6 n6 c6, .bool p6', .slice A6' n6' c6']
  have HZ0 := Lib.hid (fun h => (HZ0.out h).imp id (·.ext hy5))
  have HZ1 := Lib.hid (fun h => (HZ1.out h).imp id (·.ext hy5))
  have hxy := hx5.trans hy5
  have hX := hX.ext hxy
  have hY := hY.ext hxy
  have hu := hu.ext hxy
  have hv := hv.ext hxy
  have B5 := B5.ext hxy
  have B6 := B6.ext hxy
  have B8 := B8.ext hxy
  have B10 := B10.ext hxy
  have hE := hE.trans hxy
  have hTab := hTab.ext hxy
  generalize (w5.alloc (.cells #[.bool p6, .slice A6 n6 c6, .bool p6', .slice A6' n6' c6'] 28)) = W5 at *
  clear hx5 hy5 hxy k50 k51 k52 k53 k60 k61 k62 k63
  have k60 := B6.c0
  have k61 := B6.c1
  have k62 := B6.c2
  have k63 := B6.c3
  go_cut [55] (fun v wx => v = .bool (Y.num.sign == 0) ∧ Later W5 wx)
  case first =>
    go_wp2_with fail
    refine (RatSign_b _ _ _ _ hY).mono ?_
    rintro e w6 ⟨rfl, hx6⟩
    go_wp2_with fail
    go_meet
    exact ⟨rfl, Later.step (Later.refl W5) hx6⟩
  case rest =>
  obtain ⟨rfl, hL6⟩ := hcut
  refine hK _ _ ?_
  go_cut [] (fun wx => Later W5 wx)
  case first => as_aux_lemma =>
    by_cases hY0 : Y.num = 0
    case pos =>
      obtain ⟨rfl, hZB⟩ := HZ0.out hY0
      rw [hY0, show ((0 : Int).sign == 0) = true from rfl]
      have hM6 : Ext W5 wc := hL6
      have hZB := hZB.ext hM6
      have B12 := B12.ext hM6
      have q0 := B12.c0
      have q1 := B12.c1
      have q2 := B12.c2
      have q3 := B12.c3
      go_wp2_with fail
      refine (RatSign_b _ _ _ _ hZB).mono ?_
      rintro e w7 ⟨rfl, hx7⟩
      rw [show (Rat.num 0).sign = 0 from rfl]
      go_wp2_with fail
      go_meet
      exact Later.step hL6 hx7
    case neg =>
      obtain ⟨rfl, hQ⟩ := HZ1.out hY0
      rw [sign_ne hY0]
      have HY0 := Lib.hid hY0
      have hM6 : Ext W5 wc := hL6
      have hQ := hQ.ext hM6
      have hu := hu.ext hM6
      have hv := hv.ext hM6
      have B12 := B12.ext hM6
      have B8 := B8.ext hM6
      have B10 := B10.ext hM6
      have hTab := hTab.ext hM6
      clear hY0 k60 k61 k62 k63
      have k120 : ∀ w', Later wc w' → w'.cell? ⟨_, 0, none⟩ = some _ := fun w' h => (B12.ext h).c0
      have k121 : ∀ w', Later wc w' → w'.cell? ⟨_, 1, none⟩ = some _ := fun w' h => (B12.ext h).c1
      have k122 : ∀ w', Later wc w' → w'.cell? ⟨_, 2, none⟩ = some _ := fun w' h => (B12.ext h).c2
      have k123 : ∀ w', Later wc w' → w'.cell? ⟨_, 3, none⟩ = some _ := fun w' h => (B12.ext h).c3
      have k80 : ∀ w', Later wc w' → w'.cell? ⟨_, 0, none⟩ = some _ := fun w' h => (B8.ext h).c0
      have k81 : ∀ w', Later wc w' → w'.cell? ⟨_, 1, none⟩ = some _ := fun w' h => (B8.ext h).c1
      have k82 : ∀ w', Later wc w' → w'.cell? ⟨_, 2, none⟩ = some _ := fun w' h => (B8.ext h).c2
      have k83 : ∀ w', Later wc w' → w'.cell? ⟨_, 3, none⟩ = some _ := fun w' h => (B8.ext h).c3
      have k100 : ∀ w', Later wc w' → w'.cell? ⟨_, 0, none⟩ = some _ := fun w' h => (B10.ext h).c0
      have k101 : ∀ w', Later wc w' → w'.cell? ⟨_, 1, none⟩ = some _ := fun w' h => (B10.ext h).c1
      have k102 : ∀ w', Later wc w' → w'.cell? ⟨_, 2, none⟩ = some _ := fun w' h => (B10.ext h).c2
      have k103 : ∀ w', Later wc w' → w'.cell? ⟨_, 3, none⟩ = some _ := fun w' h => (B10.ext h).c3
      have hS0 := Later.refl wc
      obtain ⟨S, hS⟩ : ∃ S : ByteArray, S = ⟨(ratText (X / Y)).toArray⟩ := ⟨_, rfl⟩
      have HS := Lib.hid hS
      clear hS
      obtain ⟨SF, hSF⟩ : ∃ S : ByteArray, S = ⟨(itoa (floorZ X)).toArray⟩ := ⟨_, rfl⟩
      have HSF := Lib.hid hSF
      clear hSF
      go_upto_region 16 with fail
      go_region_held3 (fun w' => Later wc w') ((repeat (first | assumption | apply Later.drew | apply Later.drewN | apply Later.alloc | (refine Later.step ?_ (by assumption))))) (first
          | (go_at_call 13; (with_reducible refine (RatAdd_b _ _ _ _ _ _ _ (RatB.ext (by assumption) (by repeat (first | (with_reducible exact Ext.refl _) | (with_reducible apply Ext.drew) | (with_reducible apply Ext.drewN) | (with_reducible refine Ext.trans ?_ (by assumption))))) (RatB.ext (by assumption) (by repeat (first | (with_reducible exact Ext.refl _) | (with_reducible apply Ext.drew) | (with_reducible apply Ext.drewN) | (with_reducible refine Ext.trans ?_ (by assumption))))) (by decide)).mono ?_); rintro e wk ⟨vk, rfl, hbk, hxk⟩; (obtain ⟨pk, Ak, nk, ck, pk', Ak', nk', ck', rfl⟩ := hbk.1.shape))
          | (go_at_call 15; (with_reducible refine (RatSub_b _ _ _ _ _ _ _ (RatB.ext (by assumption) (by repeat (first | (with_reducible exact Ext.refl _) | (with_reducible apply Ext.drew) | (with_reducible apply Ext.drewN) | (with_reducible refine Ext.trans ?_ (by assumption))))) (RatB.ext (by assumption) (by repeat (first | (with_reducible exact Ext.refl _) | (with_reducible apply Ext.drew) | (with_reducible apply Ext.drewN) | (with_reducible refine Ext.trans ?_ (by assumption))))) (by decide)).mono ?_); rintro e wk ⟨vk, rfl, hbk, hxk⟩; (obtain ⟨pk, Ak, nk, ck, pk', Ak', nk', ck', rfl⟩ := hbk.1.shape))
          | (go_at_call 17; (with_reducible refine (RatMul_b _ _ _ _ _ _ _ (RatB.ext (by assumption) (by repeat (first | (with_reducible exact Ext.refl _) | (with_reducible apply Ext.drew) | (with_reducible apply Ext.drewN) | (with_reducible refine Ext.trans ?_ (by assumption))))) (RatB.ext (by assumption) (by repeat (first | (with_reducible exact Ext.refl _) | (with_reducible apply Ext.drew) | (with_reducible apply Ext.drewN) | (with_reducible refine Ext.trans ?_ (by assumption))))) (by decide)).mono ?_); rintro e wk ⟨vk, rfl, hbk, hxk⟩; (obtain ⟨pk, Ak, nk, ck, pk', Ak', nk', ck', rfl⟩ := hbk.1.shape))
          | (go_at_call 19; (with_reducible refine (RatNeg_b _ _ _ _ (RatB.ext (by assumption) (by repeat (first | (with_reducible exact Ext.refl _) | (with_reducible apply Ext.drew) | (with_reducible apply Ext.drewN) | (with_reducible refine Ext.trans ?_ (by assumption)))))).mono ?_); rintro e wk ⟨vk, rfl, hbk, hxk⟩; (obtain ⟨pk, Ak, nk, ck, pk', Ak', nk', ck', rfl⟩ := hbk.1.shape))
          | (go_at_call 20; (with_reducible refine (RatCmp_b _ _ _ _ _ _ _ (RatB.ext (by assumption) (by repeat (first | (with_reducible exact Ext.refl _) | (with_reducible apply Ext.drew) | (with_reducible apply Ext.drewN) | (with_reducible refine Ext.trans ?_ (by assumption))))) (RatB.ext (by assumption) (by repeat (first | (with_reducible exact Ext.refl _) | (with_reducible apply Ext.drew) | (with_reducible apply Ext.drewN) | (with_reducible refine Ext.trans ?_ (by assumption))))) (by decide)).mono ?_); rintro e wk ⟨rfl, hxk⟩)
          | (go_at_call 22; (with_reducible refine (RatFloor_b _ _ _ _ (RatB.ext (by assumption) (by repeat (first | (with_reducible exact Ext.refl _) | (with_reducible apply Ext.drew) | (with_reducible apply Ext.drewN) | (with_reducible refine Ext.trans ?_ (by assumption))))) (by decide)).mono ?_); rintro e wk ⟨vk, rfl, hbk, hxk⟩; (obtain ⟨pk, Ak, nk, ck, rfl⟩ := hbk.1.shape))
          | (go_at_call 10; (with_reducible refine (RatText_m _ _ _ _ _ (RatB.ext (by assumption) (by repeat (first | (with_reducible exact Ext.refl _) | (with_reducible apply Ext.drew) | (with_reducible apply Ext.drewN) | (with_reducible refine Ext.trans ?_ (by assumption))))) (by decide) (TabOK.ext hTab (by repeat (first | (with_reducible exact Ext.refl _) | (with_reducible apply Ext.drew) | (with_reducible apply Ext.drewN) | (with_reducible refine Ext.trans ?_ (by assumption))))) (by first | (with_reducible exact HS.out))).mono ?_); rintro e wk ⟨rfl, hxk⟩)
          | (go_at_call 23; (with_reducible refine (TextZ_m _ _ _ _ SF HSF.out (BigB.ext (by assumption) (by repeat (first | (with_reducible exact Ext.refl _) | (with_reducible apply Ext.drew) | (with_reducible apply Ext.drewN) | (with_reducible refine Ext.trans ?_ (by assumption))))) (by decide) (TabOK.ext hTab (by repeat (first | (with_reducible exact Ext.refl _) | (with_reducible apply Ext.drew) | (with_reducible apply Ext.drewN) | (with_reducible refine Ext.trans ?_ (by assumption)))))).mono ?_); rintro e wk ⟨rfl, hxk⟩)
          | (go_at_call 14; (with_reducible refine (FAdd_b _ _ _ _ _ _ _ (FracB.ext (by assumption) (by repeat (first | (with_reducible exact Ext.refl _) | (with_reducible apply Ext.drew) | (with_reducible apply Ext.drewN) | (with_reducible refine Ext.trans ?_ (by assumption))))) (FracB.ext (by assumption) (by repeat (first | (with_reducible exact Ext.refl _) | (with_reducible apply Ext.drew) | (with_reducible apply Ext.drewN) | (with_reducible refine Ext.trans ?_ (by assumption))))) (by decide)).mono ?_); rintro e wk ⟨vk, rfl, hfk, hxk⟩; (obtain ⟨sk, Ak, nk, ck, sk', Ak', nk', ck', rfl⟩ := hfk.shape))
          | (go_at_call 18; (with_reducible refine (FMul_b _ _ _ _ _ _ _ (FracB.ext (by assumption) (by repeat (first | (with_reducible exact Ext.refl _) | (with_reducible apply Ext.drew) | (with_reducible apply Ext.drewN) | (with_reducible refine Ext.trans ?_ (by assumption))))) (FracB.ext (by assumption) (by repeat (first | (with_reducible exact Ext.refl _) | (with_reducible apply Ext.drew) | (with_reducible apply Ext.drewN) | (with_reducible refine Ext.trans ?_ (by assumption))))) (by decide)).mono ?_); rintro e wk ⟨vk, rfl, hfk, hxk⟩; (obtain ⟨sk, Ak, nk, ck, sk', Ak', nk', ck', rfl⟩ := hfk.shape))
          | (go_at_call 12; (with_reducible refine (FDiv_b _ _ _ _ _ _ _ (FracB.ext (by assumption) (by repeat (first | (with_reducible exact Ext.refl _) | (with_reducible apply Ext.drew) | (with_reducible apply Ext.drewN) | (with_reducible refine Ext.trans ?_ (by assumption))))) (FracB.ext (by assumption) (by repeat (first | (with_reducible exact Ext.refl _) | (with_reducible apply Ext.drew) | (with_reducible apply Ext.drewN) | (with_reducible refine Ext.trans ?_ (by assumption))))) (by decide) HY0.out).mono ?_); rintro e wk ⟨vk, rfl, hfk, hxk⟩; (obtain ⟨sk, Ak, nk, ck, sk', Ak', nk', ck', rfl⟩ := hfk.shape))
          | (go_at_call 16; (with_reducible refine (FNeg_b _ _ _ _ (FracB.ext (by assumption) (by repeat (first | (with_reducible exact Ext.refl _) | (with_reducible apply Ext.drew) | (with_reducible apply Ext.drewN) | (with_reducible refine Ext.trans ?_ (by assumption))))) (by decide)).mono ?_); rintro e wk ⟨vk, rfl, hfk, hxk⟩; (obtain ⟨sk, Ak, nk, ck, sk', Ak', nk', ck', rfl⟩ := hfk.shape))
          | (go_at_call 21; (with_reducible refine (FCmp_b _ _ _ _ _ _ _ (FracB.ext (by assumption) (by repeat (first | (with_reducible exact Ext.refl _) | (with_reducible apply Ext.drew) | (with_reducible apply Ext.drewN) | (with_reducible refine Ext.trans ?_ (by assumption))))) (FracB.ext (by assumption) (by repeat (first | (with_reducible exact Ext.refl _) | (with_reducible apply Ext.drew) | (with_reducible apply Ext.drewN) | (with_reducible refine Ext.trans ?_ (by assumption))))) (by decide)).mono ?_); rintro e wk ⟨rfl, hxk⟩)
          | (go_at_call 25; (with_reducible refine (FFloor_b _ _ _ _ (FracB.ext (by assumption) (by repeat (first | (with_reducible exact Ext.refl _) | (with_reducible apply Ext.drew) | (with_reducible apply Ext.drewN) | (with_reducible refine Ext.trans ?_ (by assumption))))) (by decide) (by decide)).mono ?_); rintro e wk ⟨vk, rfl, hfk, hxk⟩; (obtain ⟨sk, Ak, nk, ck, rfl⟩ := hfk.shape))
          | (go_at_call 24; (with_reducible refine (RText_m _ _ _ _ SF HSF.out (NumB.ext (by assumption) (by repeat (first | (with_reducible exact Ext.refl _) | (with_reducible apply Ext.drew) | (with_reducible apply Ext.drewN) | (with_reducible refine Ext.trans ?_ (by assumption))))) (by decide)).mono ?_); rintro e wk ⟨rfl, hxk⟩)
          | (go_at_call 11; (with_reducible refine (FText_m _ _ _ _ _ (FracB.ext (by assumption) (by repeat (first | (with_reducible exact Ext.refl _) | (with_reducible apply Ext.drew) | (with_reducible apply Ext.drewN) | (with_reducible refine Ext.trans ?_ (by assumption))))) (by decide) (by decide) (by first | (with_reducible exact HS.out))).mono ?_); rintro e wk ⟨rfl, hxk⟩)
        )
      all_goals (go_wp2_with fail; go_meet)
      all_goals exact Ext.trans hL6 (by assumption)
  case rest => as_aux_lemma =>
    refine hK1 _ _ ?_
    have hM6 : Ext W5 wc := by assumption
    have hX := hX.ext hM6
    have hY := hY.ext hM6
    have hu := hu.ext hM6
    have hv := hv.ext hM6
    have B5 := B5.ext hM6
    have B6 := B6.ext hM6
    have B8 := B8.ext hM6
    have B10 := B10.ext hM6
    have hTab := hTab.ext hM6
    have hE := hE.trans hM6
    clear k60 k61 k62 k63 hM6 hL6
    have k50 : ∀ w', Later wc w' → w'.cell? ⟨_, 0, none⟩ = some _ := fun w' h => (B5.ext h).c0
    have k51 : ∀ w', Later wc w' → w'.cell? ⟨_, 1, none⟩ = some _ := fun w' h => (B5.ext h).c1
    have k52 : ∀ w', Later wc w' → w'.cell? ⟨_, 2, none⟩ = some _ := fun w' h => (B5.ext h).c2
    have k53 : ∀ w', Later wc w' → w'.cell? ⟨_, 3, none⟩ = some _ := fun w' h => (B5.ext h).c3
    have k60 : ∀ w', Later wc w' → w'.cell? ⟨_, 0, none⟩ = some _ := fun w' h => (B6.ext h).c0
    have k61 : ∀ w', Later wc w' → w'.cell? ⟨_, 1, none⟩ = some _ := fun w' h => (B6.ext h).c1
    have k62 : ∀ w', Later wc w' → w'.cell? ⟨_, 2, none⟩ = some _ := fun w' h => (B6.ext h).c2
    have k63 : ∀ w', Later wc w' → w'.cell? ⟨_, 3, none⟩ = some _ := fun w' h => (B6.ext h).c3
    have k80 : ∀ w', Later wc w' → w'.cell? ⟨_, 0, none⟩ = some _ := fun w' h => (B8.ext h).c0
    have k81 : ∀ w', Later wc w' → w'.cell? ⟨_, 1, none⟩ = some _ := fun w' h => (B8.ext h).c1
    have k82 : ∀ w', Later wc w' → w'.cell? ⟨_, 2, none⟩ = some _ := fun w' h => (B8.ext h).c2
    have k83 : ∀ w', Later wc w' → w'.cell? ⟨_, 3, none⟩ = some _ := fun w' h => (B8.ext h).c3
    have k100 : ∀ w', Later wc w' → w'.cell? ⟨_, 0, none⟩ = some _ := fun w' h => (B10.ext h).c0
    have k101 : ∀ w', Later wc w' → w'.cell? ⟨_, 1, none⟩ = some _ := fun w' h => (B10.ext h).c1
    have k102 : ∀ w', Later wc w' → w'.cell? ⟨_, 2, none⟩ = some _ := fun w' h => (B10.ext h).c2
    have k103 : ∀ w', Later wc w' → w'.cell? ⟨_, 3, none⟩ = some _ := fun w' h => (B10.ext h).c3
    have hS0 := Later.refl wc
    obtain ⟨S1, hS1⟩ : ∃ S : ByteArray, S = ⟨(ratText (X + Y)).toArray⟩ := ⟨_, rfl⟩
    obtain ⟨S2, hS2⟩ : ∃ S : ByteArray, S = ⟨(ratText (X - Y)).toArray⟩ := ⟨_, rfl⟩
    have hS2' : S2 = ⟨(ratText (X + -Y)).toArray⟩ := by rw [hS2, Rat.sub_eq_add_neg]
    obtain ⟨S3, hS3⟩ : ∃ S : ByteArray, S = ⟨(ratText (X * Y)).toArray⟩ := ⟨_, rfl⟩
    obtain ⟨S4, hS4⟩ : ∃ S : ByteArray, S = ⟨(ratText (-X)).toArray⟩ := ⟨_, rfl⟩
    obtain ⟨SF, hSF⟩ : ∃ S : ByteArray, S = ⟨(itoa (floorZ X)).toArray⟩ := ⟨_, rfl⟩
    have HS1 := Lib.hid hS1
    have HS2 := Lib.hid hS2
    have HS2' := Lib.hid hS2'
    have HS3 := Lib.hid hS3
    have HS4 := Lib.hid hS4
    have HSF := Lib.hid hSF
    clear hS1 hS2 hS2' hS3 hS4 hSF
    go_upto_region 18 with fail
    go_region_held3 (fun w' => Later wc w') ((repeat (first | assumption | apply Later.drew | apply Later.drewN | apply Later.alloc | (refine Later.step ?_ (by assumption))))) (first
        | (go_at_call 13; (with_reducible refine (RatAdd_b _ _ _ _ _ _ _ (RatB.ext (by assumption) (by repeat (first | (with_reducible exact Ext.refl _) | (with_reducible apply Ext.drew) | (with_reducible apply Ext.drewN) | (with_reducible refine Ext.trans ?_ (by assumption))))) (RatB.ext (by assumption) (by repeat (first | (with_reducible exact Ext.refl _) | (with_reducible apply Ext.drew) | (with_reducible apply Ext.drewN) | (with_reducible refine Ext.trans ?_ (by assumption))))) (by decide)).mono ?_); rintro e wk ⟨vk, rfl, hbk, hxk⟩; (obtain ⟨pk, Ak, nk, ck, pk', Ak', nk', ck', rfl⟩ := hbk.1.shape))
        | (go_at_call 15; (with_reducible refine (RatSub_b _ _ _ _ _ _ _ (RatB.ext (by assumption) (by repeat (first | (with_reducible exact Ext.refl _) | (with_reducible apply Ext.drew) | (with_reducible apply Ext.drewN) | (with_reducible refine Ext.trans ?_ (by assumption))))) (RatB.ext (by assumption) (by repeat (first | (with_reducible exact Ext.refl _) | (with_reducible apply Ext.drew) | (with_reducible apply Ext.drewN) | (with_reducible refine Ext.trans ?_ (by assumption))))) (by decide)).mono ?_); rintro e wk ⟨vk, rfl, hbk, hxk⟩; (obtain ⟨pk, Ak, nk, ck, pk', Ak', nk', ck', rfl⟩ := hbk.1.shape))
        | (go_at_call 17; (with_reducible refine (RatMul_b _ _ _ _ _ _ _ (RatB.ext (by assumption) (by repeat (first | (with_reducible exact Ext.refl _) | (with_reducible apply Ext.drew) | (with_reducible apply Ext.drewN) | (with_reducible refine Ext.trans ?_ (by assumption))))) (RatB.ext (by assumption) (by repeat (first | (with_reducible exact Ext.refl _) | (with_reducible apply Ext.drew) | (with_reducible apply Ext.drewN) | (with_reducible refine Ext.trans ?_ (by assumption))))) (by decide)).mono ?_); rintro e wk ⟨vk, rfl, hbk, hxk⟩; (obtain ⟨pk, Ak, nk, ck, pk', Ak', nk', ck', rfl⟩ := hbk.1.shape))
        | (go_at_call 19; (with_reducible refine (RatNeg_b _ _ _ _ (RatB.ext (by assumption) (by repeat (first | (with_reducible exact Ext.refl _) | (with_reducible apply Ext.drew) | (with_reducible apply Ext.drewN) | (with_reducible refine Ext.trans ?_ (by assumption)))))).mono ?_); rintro e wk ⟨vk, rfl, hbk, hxk⟩; (obtain ⟨pk, Ak, nk, ck, pk', Ak', nk', ck', rfl⟩ := hbk.1.shape))
        | (go_at_call 20; (with_reducible refine (RatCmp_b _ _ _ _ _ _ _ (RatB.ext (by assumption) (by repeat (first | (with_reducible exact Ext.refl _) | (with_reducible apply Ext.drew) | (with_reducible apply Ext.drewN) | (with_reducible refine Ext.trans ?_ (by assumption))))) (RatB.ext (by assumption) (by repeat (first | (with_reducible exact Ext.refl _) | (with_reducible apply Ext.drew) | (with_reducible apply Ext.drewN) | (with_reducible refine Ext.trans ?_ (by assumption))))) (by decide)).mono ?_); rintro e wk ⟨rfl, hxk⟩)
        | (go_at_call 22; (with_reducible refine (RatFloor_b _ _ _ _ (RatB.ext (by assumption) (by repeat (first | (with_reducible exact Ext.refl _) | (with_reducible apply Ext.drew) | (with_reducible apply Ext.drewN) | (with_reducible refine Ext.trans ?_ (by assumption))))) (by decide)).mono ?_); rintro e wk ⟨vk, rfl, hbk, hxk⟩; (obtain ⟨pk, Ak, nk, ck, rfl⟩ := hbk.1.shape))
        | (go_at_call 10; (with_reducible refine (RatText_m _ _ _ _ _ (RatB.ext (by assumption) (by repeat (first | (with_reducible exact Ext.refl _) | (with_reducible apply Ext.drew) | (with_reducible apply Ext.drewN) | (with_reducible refine Ext.trans ?_ (by assumption))))) (by decide) (TabOK.ext hTab (by repeat (first | (with_reducible exact Ext.refl _) | (with_reducible apply Ext.drew) | (with_reducible apply Ext.drewN) | (with_reducible refine Ext.trans ?_ (by assumption))))) (by first | (with_reducible exact HS1.out) | (with_reducible exact HS2.out) | (with_reducible exact HS2'.out) | (with_reducible exact HS3.out) | (with_reducible exact HS4.out))).mono ?_); rintro e wk ⟨rfl, hxk⟩)
        | (go_at_call 23; (with_reducible refine (TextZ_m _ _ _ _ SF HSF.out (BigB.ext (by assumption) (by repeat (first | (with_reducible exact Ext.refl _) | (with_reducible apply Ext.drew) | (with_reducible apply Ext.drewN) | (with_reducible refine Ext.trans ?_ (by assumption))))) (by decide) (TabOK.ext hTab (by repeat (first | (with_reducible exact Ext.refl _) | (with_reducible apply Ext.drew) | (with_reducible apply Ext.drewN) | (with_reducible refine Ext.trans ?_ (by assumption)))))).mono ?_); rintro e wk ⟨rfl, hxk⟩)
        | (go_at_call 14; (with_reducible refine (FAdd_b _ _ _ _ _ _ _ (FracB.ext (by assumption) (by repeat (first | (with_reducible exact Ext.refl _) | (with_reducible apply Ext.drew) | (with_reducible apply Ext.drewN) | (with_reducible refine Ext.trans ?_ (by assumption))))) (FracB.ext (by assumption) (by repeat (first | (with_reducible exact Ext.refl _) | (with_reducible apply Ext.drew) | (with_reducible apply Ext.drewN) | (with_reducible refine Ext.trans ?_ (by assumption))))) (by decide)).mono ?_); rintro e wk ⟨vk, rfl, hfk, hxk⟩; (obtain ⟨sk, Ak, nk, ck, sk', Ak', nk', ck', rfl⟩ := hfk.shape))
        | (go_at_call 18; (with_reducible refine (FMul_b _ _ _ _ _ _ _ (FracB.ext (by assumption) (by repeat (first | (with_reducible exact Ext.refl _) | (with_reducible apply Ext.drew) | (with_reducible apply Ext.drewN) | (with_reducible refine Ext.trans ?_ (by assumption))))) (FracB.ext (by assumption) (by repeat (first | (with_reducible exact Ext.refl _) | (with_reducible apply Ext.drew) | (with_reducible apply Ext.drewN) | (with_reducible refine Ext.trans ?_ (by assumption))))) (by decide)).mono ?_); rintro e wk ⟨vk, rfl, hfk, hxk⟩; (obtain ⟨sk, Ak, nk, ck, sk', Ak', nk', ck', rfl⟩ := hfk.shape))
        | (go_at_call 12; (with_reducible refine (FDiv_b _ _ _ _ _ _ _ (FracB.ext (by assumption) (by repeat (first | (with_reducible exact Ext.refl _) | (with_reducible apply Ext.drew) | (with_reducible apply Ext.drewN) | (with_reducible refine Ext.trans ?_ (by assumption))))) (FracB.ext (by assumption) (by repeat (first | (with_reducible exact Ext.refl _) | (with_reducible apply Ext.drew) | (with_reducible apply Ext.drewN) | (with_reducible refine Ext.trans ?_ (by assumption))))) (by decide) HY0.out).mono ?_); rintro e wk ⟨vk, rfl, hfk, hxk⟩; (obtain ⟨sk, Ak, nk, ck, sk', Ak', nk', ck', rfl⟩ := hfk.shape))
        | (go_at_call 16; (with_reducible refine (FNeg_b _ _ _ _ (FracB.ext (by assumption) (by repeat (first | (with_reducible exact Ext.refl _) | (with_reducible apply Ext.drew) | (with_reducible apply Ext.drewN) | (with_reducible refine Ext.trans ?_ (by assumption))))) (by decide)).mono ?_); rintro e wk ⟨vk, rfl, hfk, hxk⟩; (obtain ⟨sk, Ak, nk, ck, sk', Ak', nk', ck', rfl⟩ := hfk.shape))
        | (go_at_call 21; (with_reducible refine (FCmp_b _ _ _ _ _ _ _ (FracB.ext (by assumption) (by repeat (first | (with_reducible exact Ext.refl _) | (with_reducible apply Ext.drew) | (with_reducible apply Ext.drewN) | (with_reducible refine Ext.trans ?_ (by assumption))))) (FracB.ext (by assumption) (by repeat (first | (with_reducible exact Ext.refl _) | (with_reducible apply Ext.drew) | (with_reducible apply Ext.drewN) | (with_reducible refine Ext.trans ?_ (by assumption))))) (by decide)).mono ?_); rintro e wk ⟨rfl, hxk⟩)
        | (go_at_call 25; (with_reducible refine (FFloor_b _ _ _ _ (FracB.ext (by assumption) (by repeat (first | (with_reducible exact Ext.refl _) | (with_reducible apply Ext.drew) | (with_reducible apply Ext.drewN) | (with_reducible refine Ext.trans ?_ (by assumption))))) (by decide) (by decide)).mono ?_); rintro e wk ⟨vk, rfl, hfk, hxk⟩; (obtain ⟨sk, Ak, nk, ck, rfl⟩ := hfk.shape))
        | (go_at_call 24; (with_reducible refine (RText_m _ _ _ _ SF HSF.out (NumB.ext (by assumption) (by repeat (first | (with_reducible exact Ext.refl _) | (with_reducible apply Ext.drew) | (with_reducible apply Ext.drewN) | (with_reducible refine Ext.trans ?_ (by assumption))))) (by decide)).mono ?_); rintro e wk ⟨rfl, hxk⟩)
        | (go_at_call 11; (with_reducible refine (FText_m _ _ _ _ _ (FracB.ext (by assumption) (by repeat (first | (with_reducible exact Ext.refl _) | (with_reducible apply Ext.drew) | (with_reducible apply Ext.drewN) | (with_reducible refine Ext.trans ?_ (by assumption))))) (by decide) (by decide) (by first | (with_reducible exact HS1.out) | (with_reducible exact HS2.out) | (with_reducible exact HS2'.out) | (with_reducible exact HS3.out) | (with_reducible exact HS4.out))).mono ?_); rintro e wk ⟨rfl, hxk⟩)
      )
    all_goals (go_wp2_with fail; go_ret)
    all_goals exact ⟨rfl, hE.trans (show Later wc _ by assumption)⟩
end Go.Proofs.YtginogcdjplhiaaGreatDoor.Ten
