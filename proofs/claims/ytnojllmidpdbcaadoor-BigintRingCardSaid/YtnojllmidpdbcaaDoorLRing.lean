/- Walk: the law BigintRing. -/
import Derived.Test.YtnojllmidpdbcaaDoorQ3
namespace Go.Proofs.YtnojllmidpdbcaaDoor.Big
open Go.RowKit

set_option maxRecDepth 100000 in
set_option maxHeartbeats 8000000 in
theorem ring_any (s t u : ByteArray) (w : World) (htab : TabOK w) :
    Calls Tryd.prog 10 #[.string s, .string t, .string u] w (fun e w' => e = .returned (.bool true) ∧ Ext w w') := by
  go_enter Tryd.func10, Tryd.ntmps10
  go_wp2_with fail
  refine (awake_any _ htab).mono ?_
  rintro e w1 ⟨rfl, hx1⟩
  go_wp2_with fail
  refine (two_any s t _).mono ?_
  rintro e w2 ⟨v2, v3, X, Y, rfl, hX0, hY0, hXY, hx2⟩
  obtain ⟨p2, A2, k2, c2, rfl⟩ := hX0.shape
  obtain ⟨p3, A3, k3, c3, rfl⟩ := hY0.shape
  obtain ⟨o1, ho1⟩ : ∃ o, o = (okT s && okT t) := ⟨_, rfl⟩
  rw [← ho1]
  have HXY := Lib.hid hXY
  have HO1 := Lib.hid ho1
  clear hXY ho1
  go_upto_region 4 with fail
  obtain ⟨B7, B8, hE⟩ := boxes2 w2 25 #[.bool p2, .slice A2 k2 c2] #[.bool p3, .slice A3 k3 c3]
  have hX1 := hX0.ext hE
  have hY1 := hY0.ext hE
  have hE1 := (hx1.trans hx2).trans hE
  generalize ((w2.alloc (.cells #[.bool p2, .slice A2 k2 c2] 25)).alloc (.cells #[.bool p3, .slice A3 k3 c3] 25)) = V at *
  clear hE hx1 hx2 hX0 hY0
  go_wp2_with fail
  obtain ⟨zs, hzs⟩ : ∃ zs : ByteArray, zs = zeroS := ⟨_, rfl⟩
  rw [show (⟨#[48]⟩ : ByteArray) = zs from hzs.symm]
  refine (two_any u zs _).mono ?_
  rintro e w3 ⟨v4, v5, Z, Z0, rfl, hZ0, hZ1, hZZ, hx3⟩
  obtain ⟨p4, A4, k4, c4, rfl⟩ := hZ0.shape
  obtain ⟨p5, A5, k5, c5, rfl⟩ := hZ1.shape
  obtain ⟨o2, ho2⟩ : ∃ o, o = (okT u && okT zs) := ⟨_, rfl⟩
  rw [← ho2]
  have HZZ := Lib.hid hZZ
  have HO2 := Lib.hid ho2
  have HZS := Lib.hid hzs
  clear hZZ ho2 hzs
  have B7 := B7.ext hx3
  have B8 := B8.ext hx3
  have hX1 := hX1.ext hx3
  have hY1 := hY1.ext hx3
  have hE1 := hE1.trans hx3
  go_upto_region 5 with fail
  obtain ⟨B10, B11, hE⟩ := boxes2 w3 25 #[.bool p4, .slice A4 k4 c4] #[.bool p5, .slice A5 k5 c5]
  have hX := hX1.ext hE
  have hY := hY1.ext hE
  have hZ := hZ0.ext hE
  have B7 := B7.ext hE
  have B8 := B8.ext hE
  have hE0 := hE1.trans hE
  generalize ((w3.alloc (.cells #[.bool p4, .slice A4 k4 c4] 25)).alloc (.cells #[.bool p5, .slice A5 k5 c5] 25)) = W at *
  clear hE hx3 hX1 hY1 hZ0 hZ1 hE1
  have k70 : ∀ w', Later W w' → w'.cell? ⟨w2.heap.size, 0, none⟩ = some (.bool p2) := fun w' h => (B7.ext h).c0
  have k71 : ∀ w', Later W w' → w'.cell? ⟨w2.heap.size, 1, none⟩ = some (.slice A2 k2 c2) := fun w' h => (B7.ext h).c1
  have k80 : ∀ w', Later W w' → w'.cell? ⟨w2.heap.size + 1, 0, none⟩ = some (.bool p3) := fun w' h => (B8.ext h).c0
  have k81 : ∀ w', Later W w' → w'.cell? ⟨w2.heap.size + 1, 1, none⟩ = some (.slice A3 k3 c3) := fun w' h => (B8.ext h).c1
  have k90 : ∀ w', Later W w' → w'.cell? ⟨w3.heap.size, 0, none⟩ = some (.bool p4) := fun w' h => (B10.ext h).c0
  have k91 : ∀ w', Later W w' → w'.cell? ⟨w3.heap.size, 1, none⟩ = some (.slice A4 k4 c4) := fun w' h => (B10.ext h).c1
  have hS0 := Later.refl W
  by_cases hok : o1 = true ∧ o2 = true
  case neg =>
    rcases o1 with _ | _
    · go_wp2_with fail
      go_ret
      exact ⟨rfl, hE0⟩
    · rcases o2 with _ | _
      · go_wp2_with fail
        go_ret
        exact ⟨rfl, hE0⟩
      · exact absurd ⟨rfl, rfl⟩ hok
  obtain ⟨rfl, rfl⟩ := hok
  have hos := HO1.out
  have hou := HO2.out
  simp only [Bool.true_eq, Bool.and_eq_true] at hos hou
  have bX : B 80 X := by rw [(HXY.out hos.1 hos.2).1]; exact parse_bound hos.1
  have bY : B 80 Y := by rw [(HXY.out hos.1 hos.2).2]; exact parse_bound hos.2
  have bZ : B 80 Z := by rw [(HZZ.out hou.1 hou.2).1]; exact parse_bound hou.1
  clear hos hou HXY HZZ HO1 HO2 HZS
  go_wp2_with fail
  have hXX : BigB W _ X 80 := ⟨hX, bX⟩
  have hYY : BigB W _ Y 80 := ⟨hY, bY⟩
  have hZZ : BigB W _ Z 80 := ⟨hZ, bZ⟩
  have hsgn : ((X - X).sign == 0) = true := by rw [Int.sub_self]; rfl
  dsimp only [List.append]
  go_region_held3 (fun w' => Later W w') ((repeat (first | assumption | apply Later.drew | apply Later.drewN | apply Later.alloc | (refine Later.step ?_ (by assumption))))) (first
      | (go_at_call 24; (with_reducible refine (Add_b _ _ _ _ _ _ _ (BigB.ext (by assumption) (by repeat (first | (with_reducible exact Ext.refl _) | (with_reducible apply Ext.drew) | (with_reducible apply Ext.drewN) | (with_reducible refine Ext.trans ?_ (by assumption))))) (BigB.ext (by assumption) (by repeat (first | (with_reducible exact Ext.refl _) | (with_reducible apply Ext.drew) | (with_reducible apply Ext.drewN) | (with_reducible refine Ext.trans ?_ (by assumption))))) (by decide)).mono ?_); rintro e wk ⟨vk, rfl, hbk, hxk⟩; (obtain ⟨pk, Ak, nk, ck, rfl⟩ := hbk.1.shape))
      | (go_at_call 28; (with_reducible refine (Sub_b _ _ _ _ _ _ _ (BigB.ext (by assumption) (by repeat (first | (with_reducible exact Ext.refl _) | (with_reducible apply Ext.drew) | (with_reducible apply Ext.drewN) | (with_reducible refine Ext.trans ?_ (by assumption))))) (BigB.ext (by assumption) (by repeat (first | (with_reducible exact Ext.refl _) | (with_reducible apply Ext.drew) | (with_reducible apply Ext.drewN) | (with_reducible refine Ext.trans ?_ (by assumption))))) (by decide)).mono ?_); rintro e wk ⟨vk, rfl, hbk, hxk⟩; (obtain ⟨pk, Ak, nk, ck, rfl⟩ := hbk.1.shape))
      | (go_at_call 23; (with_reducible refine (Mul_b _ _ _ _ _ _ _ (BigB.ext (by assumption) (by repeat (first | (with_reducible exact Ext.refl _) | (with_reducible apply Ext.drew) | (with_reducible apply Ext.drewN) | (with_reducible refine Ext.trans ?_ (by assumption))))) (BigB.ext (by assumption) (by repeat (first | (with_reducible exact Ext.refl _) | (with_reducible apply Ext.drew) | (with_reducible apply Ext.drewN) | (with_reducible refine Ext.trans ?_ (by assumption))))) (by decide)).mono ?_); rintro e wk ⟨vk, rfl, hbk, hxk⟩; (obtain ⟨pk, Ak, nk, ck, rfl⟩ := hbk.1.shape))
      | (go_at_call 27; (with_reducible refine (Neg_b _ _ _ _ (BigB.ext (by assumption) (by repeat (first | (with_reducible exact Ext.refl _) | (with_reducible apply Ext.drew) | (with_reducible apply Ext.drewN) | (with_reducible refine Ext.trans ?_ (by assumption)))))).mono ?_); rintro e wk ⟨vk, rfl, hbk, hxk⟩; (obtain ⟨pk, Ak, nk, ck, rfl⟩ := hbk.1.shape))
      | (go_at_call 25; (with_reducible refine (abs_b _ _ _ _ (BigB.ext (by assumption) (by repeat (first | (with_reducible exact Ext.refl _) | (with_reducible apply Ext.drew) | (with_reducible apply Ext.drewN) | (with_reducible refine Ext.trans ?_ (by assumption)))))).mono ?_); rintro e wk ⟨vk, rfl, hbk, hxk⟩; (obtain ⟨pk, Ak, nk, ck, rfl⟩ := hbk.1.shape))
      | (go_at_call 20; (with_reducible refine (Cmp_eqb _ _ _ _ _ _ _ (BigB.ext (by assumption) (by repeat (first | (with_reducible exact Ext.refl _) | (with_reducible apply Ext.drew) | (with_reducible apply Ext.drewN) | (with_reducible refine Ext.trans ?_ (by assumption))))) (BigB.ext (by assumption) (by repeat (first | (with_reducible exact Ext.refl _) | (with_reducible apply Ext.drew) | (with_reducible apply Ext.drewN) | (with_reducible refine Ext.trans ?_ (by assumption))))) (by first | exact Int.add_comm _ _ | exact Int.mul_comm _ _ | exact Int.add_assoc _ _ _ | exact Int.mul_assoc _ _ _ | exact Int.mul_add _ _ _ | exact Int.sub_eq_add_neg | assumption)).mono ?_); rintro e wk ⟨rfl, hxk⟩)
      | (go_at_call 20; (with_reducible refine (Cmp_b _ _ _ _ _ _ _ (BigB.ext (by assumption) (by repeat (first | (with_reducible exact Ext.refl _) | (with_reducible apply Ext.drew) | (with_reducible apply Ext.drewN) | (with_reducible refine Ext.trans ?_ (by assumption))))) (BigB.ext (by assumption) (by repeat (first | (with_reducible exact Ext.refl _) | (with_reducible apply Ext.drew) | (with_reducible apply Ext.drewN) | (with_reducible refine Ext.trans ?_ (by assumption)))))).mono ?_); rintro e wk ⟨rfl, hxk⟩)
      | (go_at_call 16; (with_reducible refine (Sign_b _ _ _ _ (BigB.ext (by assumption) (by repeat (first | (with_reducible exact Ext.refl _) | (with_reducible apply Ext.drew) | (with_reducible apply Ext.drewN) | (with_reducible refine Ext.trans ?_ (by assumption)))))).mono ?_); rintro e wk ⟨rfl, hxk⟩)
    )
  all_goals go_wp2_with fail
  all_goals go_ret
  all_goals exact ⟨rfl, hE0.trans (show Later W _ by first | assumption | (apply Later.drew; assumption) | (apply Later.drewN; assumption))⟩

end Go.Proofs.YtnojllmidpdbcaaDoor.Big
