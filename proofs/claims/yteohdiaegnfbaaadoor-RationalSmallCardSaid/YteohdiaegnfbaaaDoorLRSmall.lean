/- Walk: the law RationalSmall. -/
import Derived.Test.YteohdiaegnfbaaaDoorT10
set_option linter.unusedVariables false
set_option linter.unusedSimpArgs false
namespace Go.Proofs.YteohdiaegnfbaaaDoor.Rt
open Go.RowKit Go.Proofs.YteohdiaegnfbaaaDoor.Big
open Go.Lib (itoa)

theorem Int_fit (x : Value) (X : Int) (w : World) (hx : BigV w x X) (h0 : -9223372036854775808 ≤ X) (h1 : X ≤ 9223372036854775807) : Calls Tryd.prog 44 #[x] w (fun e w' => e = .returned (.tuple #[.int .i64 X, .bool true]) ∧ Ext w w') := by
  refine (Int_any x X 3 w hx (by unfold pw; omega) (by omega)).mono ?_
  rintro e w' ⟨rfl, h⟩
  have hf : fits X = true := by unfold fits; simp; omega
  rw [hf]
  exact ⟨rfl, h⟩
theorem mul16 {m n : Int} (m0 : -32768 ≤ m) (m1 : m ≤ 32767) (n0 : -32768 ≤ n) (n1 : n ≤ 32767) : -1073741824 ≤ m * n ∧ m * n ≤ 1073741824 := by
  have h1 : (m * n).natAbs ≤ 32768 * 32768 := by
    rw [Int.natAbs_mul]
    exact Nat.mul_le_mul (by omega) (by omega)
  omega
theorem tdiv16 {m n : Int} (m0 : -32768 ≤ m) (m1 : m ≤ 32768) : -32768 ≤ m.tdiv n ∧ m.tdiv n ≤ 32768 := by
  have h1 : (m.tdiv n).natAbs ≤ m.natAbs := by rw [Int.natAbs_tdiv]; exact Nat.div_le_self _ _
  omega
theorem tmod16 {m n : Int} (m0 : -32768 ≤ m) (m1 : m ≤ 32768) : -32768 ≤ m.tmod n ∧ m.tmod n ≤ 32768 := by
  have h1 : (m.tmod n).natAbs ≤ m.natAbs := by rw [Int.natAbs_tmod]; exact Nat.mod_le _ _
  omega
theorem floor_divInt {n d : Int} (hd : 0 < d) : floorZ (Rat.divInt n d) = n / d := by
  obtain ⟨h1, h2⟩ := red_pos (n := n) hd
  obtain ⟨g, hg⟩ : ∃ g : Int, g = ((Nat.gcd n.natAbs d.natAbs : Nat) : Int) := ⟨_, rfl⟩
  rw [← hg] at h1 h2
  have g0 : 0 < g := by
    have := Nat.gcd_pos_of_pos_right n.natAbs (show 0 < d.natAbs by omega); omega
  have hn : g ∣ n := Int.natAbs_dvd_natAbs.1 (by rw [hg, Int.natAbs_natCast]; exact Nat.gcd_dvd_left _ _)
  have hdd : g ∣ d := Int.natAbs_dvd_natAbs.1 (by rw [hg, Int.natAbs_natCast]; exact Nat.gcd_dvd_right _ _)
  unfold floorZ
  rw [h1, h2]
  have e1 : n.tdiv g * g = n := Int.tdiv_mul_cancel hn
  have e2 : d.tdiv g * g = d := Int.tdiv_mul_cancel hdd
  conv => rhs; rw [← e1, ← e2]
  rw [Int.mul_ediv_mul_of_pos_left _ _ g0]

set_option maxRecDepth 100000 in
set_option maxHeartbeats 16000000 in
theorem small_any (a b c d : Int) (w : World) (a0 : -32768 ≤ a) (a1 : a ≤ 32767) (b0 : -32768 ≤ b) (b1 : b ≤ 32767) (c0 : -32768 ≤ c) (c1 : c ≤ 32767) (d0 : -32768 ≤ d) (d1 : d ≤ 32767) (htab : TabOK w) (hmx : MxOK w) :
    Calls Tryd.prog 9 #[.int .i16 a, .int .i16 b, .int .i16 c, .int .i16 d] w (fun e w' => e = .returned (.bool true) ∧ Ext w w') := by
  by_cases hb : b = 0
  · have e1 : (b == 0) = true := by simpa using hb
    clear hb
    go_enter Tryd.func9, Tryd.ntmps9
    go_wp2_with fail
    refine (RatAwake_any _ htab hmx).mono ?_
    rintro e w1 ⟨rfl, hx1⟩
    go_wp2_with fail
    go_ret
    exact ⟨rfl, hx1⟩
  have e1 : (b == 0) = false := by simpa using hb
  by_cases hd : d = 0
  · have e2 : (d == 0) = true := by simpa using hd
    clear hb hd
    go_enter Tryd.func9, Tryd.ntmps9
    go_wp2_with fail
    refine (RatAwake_any _ htab hmx).mono ?_
    rintro e w1 ⟨rfl, hx1⟩
    go_wp2_with fail
    go_ret
    exact ⟨rfl, hx1⟩
  have e2 : (d == 0) = false := by simpa using hd
  obtain ⟨x1, y1⟩ := mul16 a0 a1 d0 d1
  obtain ⟨x2, y2⟩ := mul16 c0 c1 b0 b1
  obtain ⟨x3, y3⟩ := mul16 b0 b1 d0 d1
  obtain ⟨x4, y4⟩ := mul16 a0 a1 c0 c1
  obtain ⟨AD, hAD⟩ : ∃ z, z = a * d := ⟨_, rfl⟩
  obtain ⟨CB, hCB⟩ : ∃ z, z = c * b := ⟨_, rfl⟩
  obtain ⟨BD, hBD⟩ : ∃ z, z = b * d := ⟨_, rfl⟩
  obtain ⟨AC, hAC⟩ : ∃ z, z = a * c := ⟨_, rfl⟩
  rw [← hAD] at x1 y1
  rw [← hCB] at x2 y2
  rw [← hBD] at x3 y3
  rw [← hAC] at x4 y4
  have HBD0 := Lib.hid (show BD ≠ 0 by rw [hBD]; exact Int.mul_ne_zero hb hd)
  have S1 : Hid (Rat.divInt a b + Rat.divInt c d = Rat.divInt (AD + CB) BD) := Lib.hid (by rw [hAD, hCB, hBD, Rat.divInt_add_divInt _ _ hb hd])
  have S2 : Hid (Rat.divInt a b * Rat.divInt c d = Rat.divInt AC BD) := Lib.hid (by rw [hAC, hBD, Rat.divInt_mul_divInt])
  have v1 : a * d = AD := hAD.symm
  have v2 : c * b = CB := hCB.symm
  have v3 : b * d = BD := hBD.symm
  have v4 : a * c = AC := hAC.symm
  have hF : Hid (floorZ (Rat.divInt a b) = if b < 0 then (-a) / (-b) else a / b) := Lib.hid (by
    by_cases h : b < 0
    · rw [if_pos h, ← Rat.neg_divInt_neg]; exact floor_divInt (by omega)
    · rw [if_neg h]; exact floor_divInt (by omega))
  have HB := Lib.hid hb
  have HD := Lib.hid hd
  clear hAD hCB hBD hAC hb hd
  go_enter Tryd.func9, Tryd.ntmps9
  go_wp2_with fail
  refine (RatAwake_any _ htab hmx).mono ?_
  rintro e w1 ⟨rfl, hx1⟩
  have hTab := htab.ext hx1
  go_wp2_with fail
  refine (Frac_b a b _ (by omega) (by omega) (by omega) (by omega) HB.out).mono ?_
  rintro e w2 ⟨v2', rfl, h2, hx2⟩
  obtain ⟨p2, A2, n2, c2, p2', A2', n2', c2', rfl⟩ := h2.1.shape
  go_upto_region 7 with fail
  have hy2 : Ext w2 (w2.alloc (.cells #[.bool p2, .slice A2 n2 c2, .bool p2', .slice A2' n2' c2'] 29)) := (Ext.refl w2).alloc _
  have B2 := Box.new w2 29 #[.bool p2, .slice A2 n2 c2, .bool p2', .slice A2' n2' c2']
  have h2 := h2.ext hy2
  have hz2 := hx2.trans hy2
  generalize (w2.alloc (.cells #[.bool p2, .slice A2 n2 c2, .bool p2', .slice A2' n2' c2'] 29)) = W2 at *
  clear hx2 hy2
  go_wp2_with fail
  refine (Frac_b c d _ (by omega) (by omega) (by omega) (by omega) HD.out).mono ?_
  rintro e w3 ⟨v3', rfl, h3, hx3⟩
  obtain ⟨p3, A3, n3, c3, p3', A3', n3', c3', rfl⟩ := h3.1.shape
  go_upto_region 8 with fail
  have hy3 : Ext w3 (w3.alloc (.cells #[.bool p3, .slice A3 n3 c3, .bool p3', .slice A3' n3' c3'] 29)) := (Ext.refl w3).alloc _
  have B3 := Box.new w3 29 #[.bool p3, .slice A3 n3 c3, .bool p3', .slice A3' n3' c3']
  have h3 := h3.ext hy3
  have hz3 := hx3.trans hy3
  generalize (w3.alloc (.cells #[.bool p3, .slice A3 n3 c3, .bool p3', .slice A3' n3' c3'] 29)) = W3 at *
  clear hx3 hy3
  go_wp2_with fail
  refine (Frac_b (AD + CB) BD _ (by omega) (by omega) (by omega) (by omega) HBD0.out).mono ?_
  rintro e w4 ⟨v4', rfl, h4, hx4⟩
  obtain ⟨p4, A4, n4, c4, p4', A4', n4', c4', rfl⟩ := h4.1.shape
  go_upto_region 9 with fail
  have hy4 : Ext w4 (w4.alloc (.cells #[.bool p4, .slice A4 n4 c4, .bool p4', .slice A4' n4' c4'] 29)) := (Ext.refl w4).alloc _
  have B4 := Box.new w4 29 #[.bool p4, .slice A4 n4 c4, .bool p4', .slice A4' n4' c4']
  have h4 := h4.ext hy4
  have hz4 := hx4.trans hy4
  generalize (w4.alloc (.cells #[.bool p4, .slice A4 n4 c4, .bool p4', .slice A4' n4' c4'] 29)) = W4 at *
  clear hx4 hy4
  go_wp2_with fail
  refine (Frac_b AC BD _ (by omega) (by omega) (by omega) (by omega) HBD0.out).mono ?_
  rintro e w5 ⟨v5', rfl, h5, hx5⟩
  obtain ⟨p5, A5, n5, c5, p5', A5', n5', c5', rfl⟩ := h5.1.shape
  go_upto_region 10 with fail
  have hy5 : Ext w5 (w5.alloc (.cells #[.bool p5, .slice A5 n5 c5, .bool p5', .slice A5' n5' c5'] 29)) := (Ext.refl w5).alloc _
  have B5 := Box.new w5 29 #[.bool p5, .slice A5 n5 c5, .bool p5', .slice A5' n5' c5']
  have h5 := h5.ext hy5
  have hz5 := hx5.trans hy5
  generalize (w5.alloc (.cells #[.bool p5, .slice A5 n5 c5, .bool p5', .slice A5' n5' c5'] 29)) = W5 at *
  clear hx5 hy5
  have h4 := h4.ext hz5
  have h3 := (h3.ext hz4).ext hz5
  have h2 := ((h2.ext hz3).ext hz4).ext hz5
  have B4 := B4.ext hz5
  have B3 := (B3.ext hz4).ext hz5
  have B2 := ((B2.ext hz3).ext hz4).ext hz5
  have hE0 := (((hx1.trans hz2).trans hz3).trans hz4).trans hz5
  have hTab := (((hTab.ext hz2).ext hz3).ext hz4).ext hz5
  clear hz2 hz3 hz4 hz5 hx1
  have k20 : ∀ w', Later W5 w' → w'.cell? ⟨_, 0, none⟩ = some _ := fun w' h => (B2.ext h).c0
  have k21 : ∀ w', Later W5 w' → w'.cell? ⟨_, 1, none⟩ = some _ := fun w' h => (B2.ext h).c1
  have k22 : ∀ w', Later W5 w' → w'.cell? ⟨_, 2, none⟩ = some _ := fun w' h => (B2.ext h).c2
  have k23 : ∀ w', Later W5 w' → w'.cell? ⟨_, 3, none⟩ = some _ := fun w' h => (B2.ext h).c3
  have k30 : ∀ w', Later W5 w' → w'.cell? ⟨_, 0, none⟩ = some _ := fun w' h => (B3.ext h).c0
  have k31 : ∀ w', Later W5 w' → w'.cell? ⟨_, 1, none⟩ = some _ := fun w' h => (B3.ext h).c1
  have k32 : ∀ w', Later W5 w' → w'.cell? ⟨_, 2, none⟩ = some _ := fun w' h => (B3.ext h).c2
  have k33 : ∀ w', Later W5 w' → w'.cell? ⟨_, 3, none⟩ = some _ := fun w' h => (B3.ext h).c3
  have k40 : ∀ w', Later W5 w' → w'.cell? ⟨_, 0, none⟩ = some _ := fun w' h => (B4.ext h).c0
  have k41 : ∀ w', Later W5 w' → w'.cell? ⟨_, 1, none⟩ = some _ := fun w' h => (B4.ext h).c1
  have k42 : ∀ w', Later W5 w' → w'.cell? ⟨_, 2, none⟩ = some _ := fun w' h => (B4.ext h).c2
  have k43 : ∀ w', Later W5 w' → w'.cell? ⟨_, 3, none⟩ = some _ := fun w' h => (B4.ext h).c3
  have k50 : ∀ w', Later W5 w' → w'.cell? ⟨_, 0, none⟩ = some _ := fun w' h => (B5.ext h).c0
  have k51 : ∀ w', Later W5 w' → w'.cell? ⟨_, 1, none⟩ = some _ := fun w' h => (B5.ext h).c1
  have k52 : ∀ w', Later W5 w' → w'.cell? ⟨_, 2, none⟩ = some _ := fun w' h => (B5.ext h).c2
  have k53 : ∀ w', Later W5 w' → w'.cell? ⟨_, 3, none⟩ = some _ := fun w' h => (B5.ext h).c3
  have hS0 := Later.refl W5
  go_cut [105] (fun v wx => v = .bool false ∧ Later W5 wx)
  case first =>
    go_region_held3 (fun w' => Later W5 w') ((repeat (first | assumption | apply Later.drew | apply Later.drewN | apply Later.alloc | (refine Later.step ?_ (by assumption))))) (first
      | (go_at_call 24; (with_reducible refine (RatSame_eq _ _ _ _ _ _ _ (RatB.ext (by assumption) (by repeat (first | (with_reducible exact Ext.refl _) | (with_reducible apply Ext.drew) | (with_reducible apply Ext.drewN) | (with_reducible refine Ext.trans ?_ (by assumption))))) (RatB.ext (by assumption) (by repeat (first | (with_reducible exact Ext.refl _) | (with_reducible apply Ext.drew) | (with_reducible apply Ext.drewN) | (with_reducible refine Ext.trans ?_ (by assumption))))) (by decide) (TabOK.ext hTab (by repeat (first | (with_reducible exact Ext.refl _) | (with_reducible apply Ext.drew) | (with_reducible apply Ext.drewN) | (with_reducible refine Ext.trans ?_ (by assumption))))) (by first | exact S1.out | exact S2.out)).mono ?_); rintro e wk ⟨rfl, hxk⟩)
        | (go_at_call 41; (with_reducible refine (RatAdd_b _ _ _ _ _ _ _ (RatB.ext (by assumption) (by repeat (first | (with_reducible exact Ext.refl _) | (with_reducible apply Ext.drew) | (with_reducible apply Ext.drewN) | (with_reducible refine Ext.trans ?_ (by assumption))))) (RatB.ext (by assumption) (by repeat (first | (with_reducible exact Ext.refl _) | (with_reducible apply Ext.drew) | (with_reducible apply Ext.drewN) | (with_reducible refine Ext.trans ?_ (by assumption))))) (by decide)).mono ?_); rintro e wk ⟨vk, rfl, hbk, hxk⟩; (obtain ⟨pk, Ak, nk, ck, pk', Ak', nk', ck', rfl⟩ := hbk.1.shape))
        | (go_at_call 38; (with_reducible refine (RatSub_b _ _ _ _ _ _ _ (RatB.ext (by assumption) (by repeat (first | (with_reducible exact Ext.refl _) | (with_reducible apply Ext.drew) | (with_reducible apply Ext.drewN) | (with_reducible refine Ext.trans ?_ (by assumption))))) (RatB.ext (by assumption) (by repeat (first | (with_reducible exact Ext.refl _) | (with_reducible apply Ext.drew) | (with_reducible apply Ext.drewN) | (with_reducible refine Ext.trans ?_ (by assumption))))) (by decide)).mono ?_); rintro e wk ⟨vk, rfl, hbk, hxk⟩; (obtain ⟨pk, Ak, nk, ck, pk', Ak', nk', ck', rfl⟩ := hbk.1.shape))
        | (go_at_call 42; (with_reducible refine (RatMul_b _ _ _ _ _ _ _ (RatB.ext (by assumption) (by repeat (first | (with_reducible exact Ext.refl _) | (with_reducible apply Ext.drew) | (with_reducible apply Ext.drewN) | (with_reducible refine Ext.trans ?_ (by assumption))))) (RatB.ext (by assumption) (by repeat (first | (with_reducible exact Ext.refl _) | (with_reducible apply Ext.drew) | (with_reducible apply Ext.drewN) | (with_reducible refine Ext.trans ?_ (by assumption))))) (by decide)).mono ?_); rintro e wk ⟨vk, rfl, hbk, hxk⟩; (obtain ⟨pk, Ak, nk, ck, pk', Ak', nk', ck', rfl⟩ := hbk.1.shape))
        | (go_at_call 36; (with_reducible refine (RatNeg_b _ _ _ _ (RatB.ext (by assumption) (by repeat (first | (with_reducible exact Ext.refl _) | (with_reducible apply Ext.drew) | (with_reducible apply Ext.drewN) | (with_reducible refine Ext.trans ?_ (by assumption)))))).mono ?_); rintro e wk ⟨vk, rfl, hbk, hxk⟩; (obtain ⟨pk, Ak, nk, ck, pk', Ak', nk', ck', rfl⟩ := hbk.1.shape))
        | (go_at_call 35; (with_reducible refine (RatCmp_b _ _ _ _ _ _ _ (RatB.ext (by assumption) (by repeat (first | (with_reducible exact Ext.refl _) | (with_reducible apply Ext.drew) | (with_reducible apply Ext.drewN) | (with_reducible refine Ext.trans ?_ (by assumption))))) (RatB.ext (by assumption) (by repeat (first | (with_reducible exact Ext.refl _) | (with_reducible apply Ext.drew) | (with_reducible apply Ext.drewN) | (with_reducible refine Ext.trans ?_ (by assumption))))) (by decide)).mono ?_); rintro e wk ⟨rfl, hxk⟩)
        | (go_at_call 13; (with_reducible refine (RatSign_b _ _ _ _ (RatB.ext (by assumption) (by repeat (first | (with_reducible exact Ext.refl _) | (with_reducible apply Ext.drew) | (with_reducible apply Ext.drewN) | (with_reducible refine Ext.trans ?_ (by assumption)))))).mono ?_); rintro e wk ⟨rfl, hxk⟩)
        | (go_at_call 39; (with_reducible refine (RatOf_b _ _ (by first | assumption | decide) (by first | assumption | decide)).mono ?_); rintro e wk ⟨vk, rfl, hbk, hxk⟩; (obtain ⟨pk, Ak, nk, ck, pk', Ak', nk', ck', rfl⟩ := hbk.1.shape))
      )
    all_goals (go_wp2_with fail; go_meet)
    all_goals exact ⟨rfl, by assumption⟩
  case rest =>
    obtain ⟨rfl, hL⟩ := hcut
    have hM : Ext W5 wc := hL
    clear k20 k21 k22 k23 k30 k31 k32 k33 k40 k41 k42 k43 k50 k51 k52 k53 hS0 B3 B4 B5 h3 h4 h5
    have B2 := B2.ext hM
    have h2 := h2.ext hM
    have hTab := hTab.ext hM
    have hE := hE0.trans hM
    have q0 := B2.c0
    have q1 := B2.c1
    have q2 := B2.c2
    have q3 := B2.c3
    clear hE0 hM hL
    by_cases hn : b < 0
    · have e3 : decide (b < 0) = true := by simpa using hn
      have hF0 : floorZ (Rat.divInt a b) = (-a) / (-b) := by rw [hF.out, if_pos hn]
      have e5 : ((-b) == 0) = false := by simp; omega
      obtain ⟨N, hN⟩ : ∃ z, z = -a := ⟨_, rfl⟩
      obtain ⟨M, hM⟩ : ∃ z, z = -b := ⟨_, rfl⟩
      have hN' : -a = N := hN.symm
      have hM' : -b = M := hM.symm
      rw [← hM] at e5
      rw [← hN, ← hM] at hF0
      have N0 : -32767 ≤ N := by omega
      have N1 : N ≤ 32768 := by omega
      have M0 : 1 ≤ M := by omega
      have M1 : M ≤ 32768 := by omega
      clear hN hM hn
      have t1 := tdiv16 (m := N) (n := M) (by omega) (by omega)
      have t2 := tmod16 (m := N) (n := M) (by omega) (by omega)
      have t3 := tdiv_floor (n := N) (d := M) (by omega)
      obtain ⟨T, hT⟩ : ∃ z, z = (N).tdiv (M) := ⟨_, rfl⟩
      obtain ⟨R, hR⟩ : ∃ z, z = (N).tmod (M) := ⟨_, rfl⟩
      rw [← hT] at t1 t3
      rw [← hR] at t2 t3
      have hT' : (N).tdiv (M) = T := hT.symm
      have hR' : (N).tmod (M) = R := hR.symm
      by_cases hr : R < 0
      · have e4 : decide (R < 0) = true := by simpa using hr
        have HRES := Lib.hid (hF0.trans (t3.1 hr).symm)
        clear t3 hT hR hr hF0
        go_wp2_with fail
        refine (RatFloor_b _ _ _ _ h2 (by decide)).mono ?_
        rintro e w6 ⟨v6, rfl, h6, hx6⟩
        obtain ⟨p6, A6, n6, c6, rfl⟩ := h6.1.shape
        rw [HRES.out] at h6
        go_wp2_with fail
        refine (Int_fit _ _ _ h6.1 (by omega) (by omega)).mono ?_
        rintro e w7 ⟨rfl, hx7⟩
        go_wp2_with fail
        go_ret
        exact ⟨rfl, (hE.trans hx6).trans hx7⟩
      · have e4 : decide (R < 0) = false := by simpa using hr
        have HRES := Lib.hid (hF0.trans (t3.2 hr).symm)
        clear t3 hT hR hr hF0
        go_wp2_with fail
        refine (RatFloor_b _ _ _ _ h2 (by decide)).mono ?_
        rintro e w6 ⟨v6, rfl, h6, hx6⟩
        obtain ⟨p6, A6, n6, c6, rfl⟩ := h6.1.shape
        rw [HRES.out] at h6
        go_wp2_with fail
        refine (Int_fit _ _ _ h6.1 (by omega) (by omega)).mono ?_
        rintro e w7 ⟨rfl, hx7⟩
        go_wp2_with fail
        go_ret
        exact ⟨rfl, (hE.trans hx6).trans hx7⟩
    · have e3 : decide (b < 0) = false := by simpa using hn
      have hF0 : floorZ (Rat.divInt a b) = a / b := by rw [hF.out, if_neg hn]
      have B0 : 1 ≤ b := by have := HB.out; omega
      clear hn
      have t1 := tdiv16 (m := a) (n := b) (by omega) (by omega)
      have t2 := tmod16 (m := a) (n := b) (by omega) (by omega)
      have t3 := tdiv_floor (n := a) (d := b) (by omega)
      obtain ⟨T, hT⟩ : ∃ z, z = (a).tdiv (b) := ⟨_, rfl⟩
      obtain ⟨R, hR⟩ : ∃ z, z = (a).tmod (b) := ⟨_, rfl⟩
      rw [← hT] at t1 t3
      rw [← hR] at t2 t3
      have hT' : (a).tdiv (b) = T := hT.symm
      have hR' : (a).tmod (b) = R := hR.symm
      by_cases hr : R < 0
      · have e4 : decide (R < 0) = true := by simpa using hr
        have HRES := Lib.hid (hF0.trans (t3.1 hr).symm)
        clear t3 hT hR hr hF0
        go_wp2_with fail
        refine (RatFloor_b _ _ _ _ h2 (by decide)).mono ?_
        rintro e w6 ⟨v6, rfl, h6, hx6⟩
        obtain ⟨p6, A6, n6, c6, rfl⟩ := h6.1.shape
        rw [HRES.out] at h6
        go_wp2_with fail
        refine (Int_fit _ _ _ h6.1 (by omega) (by omega)).mono ?_
        rintro e w7 ⟨rfl, hx7⟩
        go_wp2_with fail
        go_ret
        exact ⟨rfl, (hE.trans hx6).trans hx7⟩
      · have e4 : decide (R < 0) = false := by simpa using hr
        have HRES := Lib.hid (hF0.trans (t3.2 hr).symm)
        clear t3 hT hR hr hF0
        go_wp2_with fail
        refine (RatFloor_b _ _ _ _ h2 (by decide)).mono ?_
        rintro e w6 ⟨v6, rfl, h6, hx6⟩
        obtain ⟨p6, A6, n6, c6, rfl⟩ := h6.1.shape
        rw [HRES.out] at h6
        go_wp2_with fail
        refine (Int_fit _ _ _ h6.1 (by omega) (by omega)).mono ?_
        rintro e w7 ⟨rfl, hx7⟩
        go_wp2_with fail
        go_ret
        exact ⟨rfl, (hE.trans hx6).trans hx7⟩
end Go.Proofs.YteohdiaegnfbaaaDoor.Rt
