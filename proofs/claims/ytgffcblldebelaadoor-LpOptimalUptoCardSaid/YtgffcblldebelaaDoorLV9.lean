/- Walk: proves, where the multipliers prove the bound. -/
import Derived.Test.YtgffcblldebelaaDoorLV8
set_option linter.unusedVariables false
set_option linter.unusedSimpArgs false
namespace Go.Proofs.YtgffcblldebelaaDoor.Lp
open Go.RowKit Go.Proofs.YtgffcblldebelaaDoor.Big Go.Proofs.YtgffcblldebelaaDoor.Rt

set_option maxHeartbeats 8000000 in
set_option maxRecDepth 100000 in
theorem proves_ok (v : Value) (p : Prob) (Ay : Option Addr) (cy : Nat) (y : Nat → Rat) (vz : Value) (z : Rat) (Kc Kr Ko Ky Kz T : Nat) (w : World) (hv : ProbV w v p) (hval : validB p = true) (hy : RatsV w Ay p.m cy y) (hz : RatB w vz z Kz)
    (hc : ∀ i, i < p.m → ∀ j, j < p.n → QB Kc (p.coef i j)) (hr : ∀ i, i < p.m → QB Kr (p.right i)) (ho : ∀ j, j < p.n → QB Ko (p.obj j)) (hq : ∀ j, j < p.m → QB Ky (y j)) (hT : 1 + p.m * (Kc + Kr + Ky + 1) ≤ T) (hT2 : T ≤ 137438953472) (hT3 : Kc + Kr + Ky ≤ 137438953472) (hT4 : Ko ≤ 137438953472) (hT5 : Kz ≤ 137438953472)
    (hpr : p.Proves y z) : Calls Tryd.prog 39 #[v, .slice Ay p.m cy, vz] w (ValPost w (.bool true)) := by
  have hv0 := hv
  obtain ⟨Ao, co, Ar, cr, rfl, hob, -⟩ := hv0
  obtain ⟨zp, zA, zn, zc, zp', zA', zn', zc', rfl⟩ := hz.1.shape
  have hp := validB_iff.1 hval
  have hcb : combB p p.m y = true := combB_iff.2 ⟨rfl, hpr.1⟩
  have HC := Lib.hid hc
  have HR := Lib.hid hr
  have HO := Lib.hid ho
  have HY := Lib.hid hq
  have HT := Lib.hid hT
  have HV := Lib.hid hval
  have HPR := Lib.hid hpr
  have HCB := Lib.hid hcb
  have hnb : p.n ≤ 1000 := hp.2.1
  have hoc := hob.1
  clear hc hr ho hq hT hval hpr hp hcb
  obtain ⟨PB, ZB, hE0⟩ := boxesT2 w 31 37 #[.slice Ao p.n co, .slice Ar p.m cr] #[.bool zp, .slice zA zn zc, .bool zp', .slice zA' zn' zc']
  go_enter Tryd.func39, Tryd.ntmps39
  go_upto_region 1 with fail
  generalize ((w.alloc (.cells #[.slice Ao p.n co, .slice Ar p.m cr] 31)).alloc (.cells #[.bool zp, .slice zA zn zc, .bool zp', .slice zA' zn' zc'] 37)) = V at *
  obtain ⟨zb, hzb⟩ : ∃ x, x = w.heap.size + 1 := ⟨_, rfl⟩
  obtain ⟨pb, hpb⟩ : ∃ x, x = w.heap.size := ⟨_, rfl⟩
  rw [← hzb] at ZB ⊢
  rw [← hpb] at PB ⊢
  clear hzb hpb
  have c0 := PB.c0
  have c1 := PB.c1
  have hvV := hv.ext hE0
  go_wp2_with fail
  refine (combine_b _ p Ay p.m cy y Kc Kr Ky T _ hvV HV.out (hy.ext hE0) HC.out HR.out HY.out HT.out hT2 hT3).mono ?_
  rintro e w1 ⟨bl, q, A, n1, c, q', A', n1', c', f, s, rfl, hL, hS, hB, hcv, hx1⟩
  obtain ⟨hf, rfl⟩ := hcv HCB.out
  rw [HCB.out]
  have HB := Lib.hid hB
  have HFG : Hid (∀ j, j < p.n → p.obj j ≤ f j) := Lib.hid (fun j hj => by rw [hf j hj]; exact HPR.out.2.1 j hj)
  have hE1 := hE0.trans hx1
  have PB := PB.ext hx1
  have ZB := ZB.ext hx1
  have hz1 := hz.ext hE1
  have hob1 := hob.ext hE1
  clear hx1 hB c0 c1 hvV hcv hf hE0
  go_upto_region 2 with fail
  have B8 := Box.new w1 37 #[.bool q, .slice A n1 c, .bool q', .slice A' n1' c']
  have hx6 : Ext w1 (w1.alloc (.cells #[.bool q, .slice A n1 c, .bool q', .slice A' n1' c'] 37)) := (Ext.refl w1).alloc _
  generalize (w1.alloc (.cells #[.bool q, .slice A n1 c, .bool q', .slice A' n1' c'] 37)) = U at *
  obtain ⟨b8, hb8⟩ : ∃ x, x = w1.heap.size := ⟨_, rfl⟩
  rw [← hb8] at B8 ⊢
  clear hb8
  have hL := hL.ext hx6
  have hS := hS.ext hx6
  have PB := PB.ext hx6
  have ZB := ZB.ext hx6
  have hz := hz1.ext hx6
  have hob := hob1.ext hx6
  have hE2 := hE1.trans hx6
  clear hx6 hE1 hz1 hob1
  go_wp2_with fail
  go_loopw [9, 21] (fun o i wr => ∃ j : Nat, j ≤ p.n ∧ i = .int .i64 j ∧ o = .bool true ∧ Ext U wr) (fun _ i _ => p.n - (intOf i).toNat)
  case atStart => exact ⟨0, by omega, rfl, rfl, Ext.refl U⟩
  case round =>
    obtain ⟨j, hj, rfl, rfl, hx⟩ := hrel
    by_cases hlt : j < p.n
    · obtain ⟨p3, A3, m3, c3, p3', A3', m3', c3', a0, a1, a2, a3, hr3⟩ := (hL.ext hx).at hlt
      obtain ⟨bo, rfl, hRo⟩ := hob.2.2 (by omega)
      obtain ⟨p4, A4, m4, c4, p4', A4', m4', c4', g0, g1, g2, g3, hr4⟩ := (hRo.ext hx).at hlt
      go_upto_region 5 with fail
      have Bx := Box.new wr 37 #[.bool p3, .slice A3 m3 c3, .bool p3', .slice A3' m3' c3']
      have hEx : Ext wr (wr.alloc (.cells #[.bool p3, .slice A3 m3 c3, .bool p3', .slice A3' m3' c3'] 37)) := (Ext.refl wr).alloc _
      generalize (wr.alloc (.cells #[.bool p3, .slice A3 m3 c3, .bool p3', .slice A3' m3' c3'] 37)) = X at *
      have hx := hx.trans hEx
      have hF : RatB X _ (f j) T := ⟨hr3.ext hEx, HB.out j hlt⟩
      have hG : RatB X _ (p.obj j) Ko := ⟨hr4.ext hEx, HO.out j hlt⟩
      have PBx := PB.ext hx
      have k30 : ∀ w', Later X w' → w'.cell? ⟨pb, 0, none⟩ = some _ := fun w' h => (PBx.ext h).c0
      have ko0 : ∀ w', Later X w' → w'.cell? ⟨bo, j * 4, none⟩ = some _ := fun w' h => Later.cell h (hEx.cell g0)
      have ko1 : ∀ w', Later X w' → w'.cell? ⟨bo, j * 4 + 1, none⟩ = some _ := fun w' h => Later.cell h (hEx.cell g1)
      have ko2 : ∀ w', Later X w' → w'.cell? ⟨bo, j * 4 + 2, none⟩ = some _ := fun w' h => Later.cell h (hEx.cell g2)
      have ko3 : ∀ w', Later X w' → w'.cell? ⟨bo, j * 4 + 3, none⟩ = some _ := fun w' h => Later.cell h (hEx.cell g3)
      have kx0 : ∀ w', Later X w' → w'.cell? ⟨_, 0, none⟩ = some _ := fun w' h => (Bx.ext h).c0
      have kx1 : ∀ w', Later X w' → w'.cell? ⟨_, 1, none⟩ = some _ := fun w' h => (Bx.ext h).c1
      have kx2 : ∀ w', Later X w' → w'.cell? ⟨_, 2, none⟩ = some _ := fun w' h => (Bx.ext h).c2
      have kx3 : ∀ w', Later X w' → w'.cell? ⟨_, 3, none⟩ = some _ := fun w' h => (Bx.ext h).c3
      have ks := Later.refl X
      obtain ⟨cq, hcq⟩ : ∃ c, c = cmpQ (f j) (p.obj j) := ⟨_, rfl⟩
      have e9 : decide (0 ≤ cq) = true := by
        have := HFG.out j hlt
        rw [hcq]
        rcases cmpQ_cases (f j) (p.obj j) with ⟨a, b⟩ | ⟨a, b⟩ | ⟨a, b⟩ <;> rw [b]
        · exact absurd a (Rat.not_lt.2 this)
        · rfl
        · rfl
      have HCQ := Lib.hid hcq
      have i1 : (0 : Int) ≤ (j : Int) := by omega
      have i2 : (j : Int) < (p.n : Int) := by omega
      clear a0 a1 a2 a3 g0 g1 g2 g3 hcq hr3 hr4
      go_region_held3 (fun w' => Later X w') ((repeat (first | assumption | apply Later.drew | apply Later.drewN | apply Later.alloc | (refine Later.step ?_ (by assumption))))) (first
        | (go_at_call 28; (with_reducible refine (RatCmp_b _ _ _ _ _ _ _ (RatB.ext hF (by repeat (first | (with_reducible exact Ext.refl _) | (with_reducible apply Ext.drew) | (with_reducible apply Ext.drewN) | (with_reducible refine Ext.trans ?_ (by assumption))))) (RatB.ext hG (by repeat (first | (with_reducible exact Ext.refl _) | (with_reducible apply Ext.drew) | (with_reducible apply Ext.drewN) | (with_reducible refine Ext.trans ?_ (by assumption))))) (by omega)).mono ?_); rintro e wk ⟨rfl, hxk⟩; rw [← HCQ.out])
        )
      all_goals (
        have hxk2 : Ext X wk := by assumption
        have hxx := hx.trans hxk2
        clear k30 ko0 ko1 ko2 ko3 kx0 kx1 kx2 kx3
        go_wp2_with fail
        go_roundw
        case rel => exact ⟨j + 1, by omega, by go_num, rfl, hxx⟩
        case measure => simp [intOf]; omega)
    · obtain rfl : j = p.n := by omega
      have B7 := B8.ext hx
      have Z7 := ZB.ext hx
      have x0 := B7.c0
      have x1 := B7.c1
      have x2 := B7.c2
      have x3 := B7.c3
      have y0 := Z7.c0
      have y1 := Z7.c1
      have y2 := Z7.c2
      have y3 := Z7.c3
      have hS7 := hS.ext hx
      have hz7 := hz.ext hx
      go_wp2_with fail
      refine (RatCmp_b _ _ _ _ _ _ _ hS7 hz7 (by omega)).mono ?_
      rintro e w9 ⟨rfl, hx9⟩
      have e9 : cmpQ (p.rhs y) z = 0 := (cmpQ_eq _ _).2 HPR.out.2.2
      rw [e9]
      go_wp2_with fail
      go_ret
      exact ⟨rfl, (hE2.trans hx).trans hx9⟩
end Go.Proofs.YtgffcblldebelaaDoor.Lp
