/- Walk: the law BigintGcd. -/
import Derived.Test.YtnojllmidpdbcaaDoorQ3
set_option linter.unusedVariables false
set_option linter.unusedSimpArgs false
namespace Go.Proofs.YtnojllmidpdbcaaDoor.Big
open Go.RowKit

theorem B_gcd {j k : Nat} {x y : Int} (a : B j x) (b : B k y) : B (max j k) ((Nat.gcd x.natAbs y.natAbs : Nat) : Int) := by
  have a := B_mono (Nat.le_max_left j k) a
  have b := B_mono (Nat.le_max_right j k) b
  unfold B at *
  rw [Int.natAbs_natCast]
  rcases Nat.eq_zero_or_pos x.natAbs with h | h
  · rw [h, Nat.gcd_zero_left]; exact b
  · exact Nat.lt_of_le_of_lt (Nat.gcd_le_left _ h) a
theorem Gcd_b (x y : Value) (X Y : Int) (j k : Nat) (w : World) (hx : BigB w x X j) (hy : BigB w y Y k) (hL : max j k ≤ 1099511627776) : Calls Tryd.prog 35 #[x, y] w (BigBPost w ((Nat.gcd X.natAbs Y.natAbs : Nat) : Int) (max j k)) :=
  (Gcd_any x y X Y (max j k) w hx.1 hy.1 (B_mono (Nat.le_max_left _ _) hx.2) (B_mono (Nat.le_max_right _ _) hy.2) hL).mono fun _ _ h => toB (B_gcd hx.2 hy.2) h
theorem Of_b (n : Int) (w : World) (h0 : -9223372036854775808 ≤ n) (h1 : n ≤ 9223372036854775807) : Calls Tryd.prog 18 #[.int .i64 n] w (BigBPost w n 2) :=
  (Of_any n w h0 h1).mono fun _ _ h => toB (show n.natAbs < pw 2 by rw [pw_two_eq]; omega) h
theorem tdiv_boundG {k : Nat} {x : Int} (y : Int) (b : B k x) : B k (x.tdiv y) := by
  unfold B at *; rw [Int.natAbs_tdiv]; exact Nat.lt_of_le_of_lt (Nat.div_le_self _ _) b
theorem gcd_law {X Y : Int} (hX : X ≠ 0) (hY : Y ≠ 0) {G : Int} (hG : G = ((Nat.gcd X.natAbs Y.natAbs : Nat) : Int)) :
    G ≠ 0 ∧ G.sign = 1 ∧ X.tmod G = 0 ∧ Y.tmod G = 0 ∧ ((Nat.gcd (X.tdiv G).natAbs (Y.tdiv G).natAbs : Nat) : Int) = 1 ∧ ((Nat.gcd Y.natAbs X.natAbs : Nat) : Int) = G := by
  have h0 : 0 < Nat.gcd X.natAbs Y.natAbs := Nat.gcd_pos_of_pos_left _ (by omega)
  have hdx : G ∣ X := Int.natAbs_dvd_natAbs.1 (by rw [hG, Int.natAbs_natCast]; exact Nat.gcd_dvd_left _ _)
  have hdy : G ∣ Y := Int.natAbs_dvd_natAbs.1 (by rw [hG, Int.natAbs_natCast]; exact Nat.gcd_dvd_right _ _)
  refine ⟨by omega, Int.sign_eq_one_of_pos (by omega), Int.tmod_eq_zero_of_dvd hdx, Int.tmod_eq_zero_of_dvd hdy, ?_, ?_⟩
  · rw [Int.natAbs_tdiv, Int.natAbs_tdiv, hG, Int.natAbs_natCast]
    change ((Nat.gcd (X.natAbs / _) (Y.natAbs / _) : Nat) : Int) = 1
    rw [Nat.gcd_div (Nat.gcd_dvd_left _ _) (Nat.gcd_dvd_right _ _), Nat.div_self h0]; rfl
  · rw [Nat.gcd_comm]; exact hG.symm
theorem gcd_zero {X Y : Int} (h : X = 0 ∨ Y = 0) : ((Nat.gcd X.natAbs Y.natAbs : Nat) : Int) = ((X.natAbs : Nat) : Int) + ((Y.natAbs : Nat) : Int) := by
  rcases h with h | h <;> subst h <;> simp

set_option maxRecDepth 100000 in
set_option maxHeartbeats 8000000 in
theorem gcd_law_any (s t : ByteArray) (w : World) (htab : TabOK w) :
    Calls Tryd.prog 12 #[.string s, .string t] w (fun e w' => e = .returned (.bool true) ∧ Ext w w') := by
  go_enter Tryd.func12, Tryd.ntmps12
  go_wp2_with fail
  refine (awake_any _ htab).mono ?_
  rintro e w1 ⟨rfl, hx1⟩
  go_wp2_with fail
  refine (two_any s t _).mono ?_
  rintro e w2 ⟨v2, v3, X, Y, rfl, hX0, hY0, hXY, hx2⟩
  obtain ⟨p2, A2, k2, c2, rfl⟩ := hX0.shape
  obtain ⟨p3, A3, k3, c3, rfl⟩ := hY0.shape
  obtain ⟨o1, ho1⟩ : ∃ o, o = (okT s && okT t) := ⟨_, rfl⟩
  rw [← ho1]
  have HXY := Lib.hid hXY
  have HO1 := Lib.hid ho1
  clear hXY ho1
  go_upto_region 4 with fail
  obtain ⟨B7, B8, hE⟩ := boxes2 w2 25 #[.bool p2, .slice A2 k2 c2] #[.bool p3, .slice A3 k3 c3]
  have hX := hX0.ext hE
  have hY := hY0.ext hE
  have hE0 := (hx1.trans hx2).trans hE
  generalize ((w2.alloc (.cells #[.bool p2, .slice A2 k2 c2] 25)).alloc (.cells #[.bool p3, .slice A3 k3 c3] 25)) = W at *
  clear hE hx1 hx2 hX0 hY0
  have k70 : ∀ w', Ext W w' → w'.cell? ⟨w2.heap.size, 0, none⟩ = some (.bool p2) := fun w' h => (B7.ext h).c0
  have k71 : ∀ w', Ext W w' → w'.cell? ⟨w2.heap.size, 1, none⟩ = some (.slice A2 k2 c2) := fun w' h => (B7.ext h).c1
  have k80 : ∀ w', Ext W w' → w'.cell? ⟨w2.heap.size + 1, 0, none⟩ = some (.bool p3) := fun w' h => (B8.ext h).c0
  have k81 : ∀ w', Ext W w' → w'.cell? ⟨w2.heap.size + 1, 1, none⟩ = some (.slice A3 k3 c3) := fun w' h => (B8.ext h).c1
  have hS0 := Ext.refl W
  cases o1
  case false =>
    go_wp2_with fail
    go_ret
    exact ⟨rfl, hE0⟩
  have hos := HO1.out
  simp only [Bool.true_eq, Bool.and_eq_true] at hos
  have bX : B 80 X := by rw [(HXY.out hos.1 hos.2).1]; exact parse_bound hos.1
  have bY : B 80 Y := by rw [(HXY.out hos.1 hos.2).2]; exact parse_bound hos.2
  clear hos HXY HO1
  go_wp2_with fail
  refine (Gcd_any _ _ X Y 80 _ (hX.ext hS0) (hY.ext hS0) bX bY (by decide)).mono ?_
  rintro e w3 ⟨v3, rfl, hg, hx3⟩
  have bG := B_gcd bX bY
  obtain ⟨G, hG⟩ : ∃ G : Int, G = ((Nat.gcd X.natAbs Y.natAbs : Nat) : Int) := ⟨_, rfl⟩
  rw [← hG] at hg bG
  have HG := Lib.hid hG
  clear hG
  obtain ⟨pg, Ag, ng, cg, rfl⟩ := hg.shape
  have hS3 := hS0.trans hx3
  go_upto_region 7 with fail
  have B5 := B7.ext hS3
  have B6 := B8.ext hS3
  have hEg : Ext w3 (w3.alloc (.cells #[.bool pg, .slice Ag ng cg] 25)) := (Ext.refl w3).alloc _
  have Bg := Box.new w3 25 #[.bool pg, .slice Ag ng cg]
  have B5 := B5.ext hEg
  have B6 := B6.ext hEg
  have hg := hg.ext hEg
  have hX := (hX.ext hS3).ext hEg
  have hY := (hY.ext hS3).ext hEg
  have hE1 := (hE0.trans hS3).trans hEg
  clear k70 k71 k80 k81 B7 B8 hS0 hS3 hx3 hE0 hEg
  generalize (w3.alloc (.cells #[.bool pg, .slice Ag ng cg] 25)) = V at *
  have k50 : ∀ w', Later V w' → w'.cell? ⟨w2.heap.size, 0, none⟩ = some (.bool p2) := fun w' h => (B5.ext h).c0
  have k51 : ∀ w', Later V w' → w'.cell? ⟨w2.heap.size, 1, none⟩ = some (.slice A2 k2 c2) := fun w' h => (B5.ext h).c1
  have k60 : ∀ w', Later V w' → w'.cell? ⟨w2.heap.size + 1, 0, none⟩ = some (.bool p3) := fun w' h => (B6.ext h).c0
  have k61 : ∀ w', Later V w' → w'.cell? ⟨w2.heap.size + 1, 1, none⟩ = some (.slice A3 k3 c3) := fun w' h => (B6.ext h).c1
  have k80 : ∀ w', Later V w' → w'.cell? ⟨w3.heap.size, 0, none⟩ = some (.bool pg) := fun w' h => (Bg.ext h).c0
  have k81 : ∀ w', Later V w' → w'.cell? ⟨w3.heap.size, 1, none⟩ = some (.slice Ag ng cg) := fun w' h => (Bg.ext h).c1
  have ks := Later.refl V
  have hXX : BigB V _ X 80 := ⟨hX, bX⟩
  have hYY : BigB V _ Y 80 := ⟨hY, bY⟩
  have hGG : BigB V _ G 80 := ⟨hg, bG⟩
  go_wp2_with fail
  refine (Sign_any _ X _ hX).mono ?_
  rintro e w4 ⟨rfl, hx4⟩
  by_cases hzx : X = 0
  · have e1 : X.sign = 0 := by rw [hzx]; rfl
    have hgz : G = ((X.natAbs : Nat) : Int) + ((Y.natAbs : Nat) : Int) := by rw [HG.out]; exact gcd_zero (.inl hzx)
    clear hzx HG
    have l4 : Later V w4 := hx4
    go_upto_region 8 with fail
    have hXX := hXX.ext l4
    have hYY := hYY.ext l4
    have hGG := hGG.ext l4
    have ks := l4
    go_region_held3 (fun w' => Later V w') ((repeat (first | assumption | apply Later.drew | apply Later.drewN | apply Later.alloc | (refine Later.step ?_ (by assumption))))) (first
        | (go_at_call 24; (with_reducible refine (Add_b _ _ _ _ _ _ _ (BigB.ext (by assumption) (by repeat (first | (with_reducible exact Ext.refl _) | (with_reducible apply Ext.drew) | (with_reducible apply Ext.drewN) | (with_reducible refine Ext.trans ?_ (by assumption))))) (BigB.ext (by assumption) (by repeat (first | (with_reducible exact Ext.refl _) | (with_reducible apply Ext.drew) | (with_reducible apply Ext.drewN) | (with_reducible refine Ext.trans ?_ (by assumption))))) (by decide)).mono ?_); rintro e wk ⟨vk, rfl, hbk, hxk⟩; (obtain ⟨pk, Ak, nk, ck, rfl⟩ := hbk.1.shape))
        | (go_at_call 28; (with_reducible refine (Sub_b _ _ _ _ _ _ _ (BigB.ext (by assumption) (by repeat (first | (with_reducible exact Ext.refl _) | (with_reducible apply Ext.drew) | (with_reducible apply Ext.drewN) | (with_reducible refine Ext.trans ?_ (by assumption))))) (BigB.ext (by assumption) (by repeat (first | (with_reducible exact Ext.refl _) | (with_reducible apply Ext.drew) | (with_reducible apply Ext.drewN) | (with_reducible refine Ext.trans ?_ (by assumption))))) (by decide)).mono ?_); rintro e wk ⟨vk, rfl, hbk, hxk⟩; (obtain ⟨pk, Ak, nk, ck, rfl⟩ := hbk.1.shape))
        | (go_at_call 23; (with_reducible refine (Mul_b _ _ _ _ _ _ _ (BigB.ext (by assumption) (by repeat (first | (with_reducible exact Ext.refl _) | (with_reducible apply Ext.drew) | (with_reducible apply Ext.drewN) | (with_reducible refine Ext.trans ?_ (by assumption))))) (BigB.ext (by assumption) (by repeat (first | (with_reducible exact Ext.refl _) | (with_reducible apply Ext.drew) | (with_reducible apply Ext.drewN) | (with_reducible refine Ext.trans ?_ (by assumption))))) (by decide)).mono ?_); rintro e wk ⟨vk, rfl, hbk, hxk⟩; (obtain ⟨pk, Ak, nk, ck, rfl⟩ := hbk.1.shape))
        | (go_at_call 27; (with_reducible refine (Neg_b _ _ _ _ (BigB.ext (by assumption) (by repeat (first | (with_reducible exact Ext.refl _) | (with_reducible apply Ext.drew) | (with_reducible apply Ext.drewN) | (with_reducible refine Ext.trans ?_ (by assumption)))))).mono ?_); rintro e wk ⟨vk, rfl, hbk, hxk⟩; (obtain ⟨pk, Ak, nk, ck, rfl⟩ := hbk.1.shape))
        | (go_at_call 25; (with_reducible refine (abs_b _ _ _ _ (BigB.ext (by assumption) (by repeat (first | (with_reducible exact Ext.refl _) | (with_reducible apply Ext.drew) | (with_reducible apply Ext.drewN) | (with_reducible refine Ext.trans ?_ (by assumption)))))).mono ?_); rintro e wk ⟨vk, rfl, hbk, hxk⟩; (obtain ⟨pk, Ak, nk, ck, rfl⟩ := hbk.1.shape))
        | (go_at_call 20; (with_reducible refine (Cmp_eqb _ _ _ _ _ _ _ (BigB.ext (by assumption) (by repeat (first | (with_reducible exact Ext.refl _) | (with_reducible apply Ext.drew) | (with_reducible apply Ext.drewN) | (with_reducible refine Ext.trans ?_ (by assumption))))) (BigB.ext (by assumption) (by repeat (first | (with_reducible exact Ext.refl _) | (with_reducible apply Ext.drew) | (with_reducible apply Ext.drewN) | (with_reducible refine Ext.trans ?_ (by assumption))))) (by first | exact Int.add_comm _ _ | exact Int.mul_comm _ _ | exact Int.add_assoc _ _ _ | exact Int.mul_assoc _ _ _ | exact Int.mul_add _ _ _ | exact Int.sub_eq_add_neg | assumption | exact rfl)).mono ?_); rintro e wk ⟨rfl, hxk⟩)
        | (go_at_call 20; (with_reducible refine (Cmp_b _ _ _ _ _ _ _ (BigB.ext (by assumption) (by repeat (first | (with_reducible exact Ext.refl _) | (with_reducible apply Ext.drew) | (with_reducible apply Ext.drewN) | (with_reducible refine Ext.trans ?_ (by assumption))))) (BigB.ext (by assumption) (by repeat (first | (with_reducible exact Ext.refl _) | (with_reducible apply Ext.drew) | (with_reducible apply Ext.drewN) | (with_reducible refine Ext.trans ?_ (by assumption)))))).mono ?_); rintro e wk ⟨rfl, hxk⟩)
        | (go_at_call 16; (with_reducible refine (Sign_b _ _ _ _ (BigB.ext (by assumption) (by repeat (first | (with_reducible exact Ext.refl _) | (with_reducible apply Ext.drew) | (with_reducible apply Ext.drewN) | (with_reducible refine Ext.trans ?_ (by assumption)))))).mono ?_); rintro e wk ⟨rfl, hxk⟩)
      )
    all_goals go_wp2_with fail
    all_goals go_ret
    all_goals exact ⟨rfl, hE1.trans (show Later V _ by first | assumption | (apply Later.drew; assumption) | (apply Later.drewN; assumption))⟩
  have e1 : (X.sign == 0) = false := by simpa using hzx
  obtain ⟨sx, hsx⟩ : ∃ s, s = X.sign := ⟨_, rfl⟩
  rw [← hsx] at e1 ⊢
  clear hsx
  have l4 : Later V w4 := hx4
  go_wp2_with fail
  refine (Sign_any _ Y _ (hY.ext hx4)).mono ?_
  rintro e w5 ⟨rfl, hx5⟩
  have l5 : Later V w5 := hx4.trans hx5
  by_cases hzy : Y = 0
  · have e2 : Y.sign = 0 := by rw [hzy]; rfl
    have hgz : G = ((X.natAbs : Nat) : Int) + ((Y.natAbs : Nat) : Int) := by rw [HG.out]; exact gcd_zero (.inr hzy)
    clear hzx hzy HG
    go_upto_region 8 with fail
    have hXX := hXX.ext l5
    have hYY := hYY.ext l5
    have hGG := hGG.ext l5
    have ks := l5
    go_region_held3 (fun w' => Later V w') ((repeat (first | assumption | apply Later.drew | apply Later.drewN | apply Later.alloc | (refine Later.step ?_ (by assumption))))) (first
        | (go_at_call 24; (with_reducible refine (Add_b _ _ _ _ _ _ _ (BigB.ext (by assumption) (by repeat (first | (with_reducible exact Ext.refl _) | (with_reducible apply Ext.drew) | (with_reducible apply Ext.drewN) | (with_reducible refine Ext.trans ?_ (by assumption))))) (BigB.ext (by assumption) (by repeat (first | (with_reducible exact Ext.refl _) | (with_reducible apply Ext.drew) | (with_reducible apply Ext.drewN) | (with_reducible refine Ext.trans ?_ (by assumption))))) (by decide)).mono ?_); rintro e wk ⟨vk, rfl, hbk, hxk⟩; (obtain ⟨pk, Ak, nk, ck, rfl⟩ := hbk.1.shape))
        | (go_at_call 28; (with_reducible refine (Sub_b _ _ _ _ _ _ _ (BigB.ext (by assumption) (by repeat (first | (with_reducible exact Ext.refl _) | (with_reducible apply Ext.drew) | (with_reducible apply Ext.drewN) | (with_reducible refine Ext.trans ?_ (by assumption))))) (BigB.ext (by assumption) (by repeat (first | (with_reducible exact Ext.refl _) | (with_reducible apply Ext.drew) | (with_reducible apply Ext.drewN) | (with_reducible refine Ext.trans ?_ (by assumption))))) (by decide)).mono ?_); rintro e wk ⟨vk, rfl, hbk, hxk⟩; (obtain ⟨pk, Ak, nk, ck, rfl⟩ := hbk.1.shape))
        | (go_at_call 23; (with_reducible refine (Mul_b _ _ _ _ _ _ _ (BigB.ext (by assumption) (by repeat (first | (with_reducible exact Ext.refl _) | (with_reducible apply Ext.drew) | (with_reducible apply Ext.drewN) | (with_reducible refine Ext.trans ?_ (by assumption))))) (BigB.ext (by assumption) (by repeat (first | (with_reducible exact Ext.refl _) | (with_reducible apply Ext.drew) | (with_reducible apply Ext.drewN) | (with_reducible refine Ext.trans ?_ (by assumption))))) (by decide)).mono ?_); rintro e wk ⟨vk, rfl, hbk, hxk⟩; (obtain ⟨pk, Ak, nk, ck, rfl⟩ := hbk.1.shape))
        | (go_at_call 27; (with_reducible refine (Neg_b _ _ _ _ (BigB.ext (by assumption) (by repeat (first | (with_reducible exact Ext.refl _) | (with_reducible apply Ext.drew) | (with_reducible apply Ext.drewN) | (with_reducible refine Ext.trans ?_ (by assumption)))))).mono ?_); rintro e wk ⟨vk, rfl, hbk, hxk⟩; (obtain ⟨pk, Ak, nk, ck, rfl⟩ := hbk.1.shape))
        | (go_at_call 25; (with_reducible refine (abs_b _ _ _ _ (BigB.ext (by assumption) (by repeat (first | (with_reducible exact Ext.refl _) | (with_reducible apply Ext.drew) | (with_reducible apply Ext.drewN) | (with_reducible refine Ext.trans ?_ (by assumption)))))).mono ?_); rintro e wk ⟨vk, rfl, hbk, hxk⟩; (obtain ⟨pk, Ak, nk, ck, rfl⟩ := hbk.1.shape))
        | (go_at_call 20; (with_reducible refine (Cmp_eqb _ _ _ _ _ _ _ (BigB.ext (by assumption) (by repeat (first | (with_reducible exact Ext.refl _) | (with_reducible apply Ext.drew) | (with_reducible apply Ext.drewN) | (with_reducible refine Ext.trans ?_ (by assumption))))) (BigB.ext (by assumption) (by repeat (first | (with_reducible exact Ext.refl _) | (with_reducible apply Ext.drew) | (with_reducible apply Ext.drewN) | (with_reducible refine Ext.trans ?_ (by assumption))))) (by first | exact Int.add_comm _ _ | exact Int.mul_comm _ _ | exact Int.add_assoc _ _ _ | exact Int.mul_assoc _ _ _ | exact Int.mul_add _ _ _ | exact Int.sub_eq_add_neg | assumption | exact rfl)).mono ?_); rintro e wk ⟨rfl, hxk⟩)
        | (go_at_call 20; (with_reducible refine (Cmp_b _ _ _ _ _ _ _ (BigB.ext (by assumption) (by repeat (first | (with_reducible exact Ext.refl _) | (with_reducible apply Ext.drew) | (with_reducible apply Ext.drewN) | (with_reducible refine Ext.trans ?_ (by assumption))))) (BigB.ext (by assumption) (by repeat (first | (with_reducible exact Ext.refl _) | (with_reducible apply Ext.drew) | (with_reducible apply Ext.drewN) | (with_reducible refine Ext.trans ?_ (by assumption)))))).mono ?_); rintro e wk ⟨rfl, hxk⟩)
        | (go_at_call 16; (with_reducible refine (Sign_b _ _ _ _ (BigB.ext (by assumption) (by repeat (first | (with_reducible exact Ext.refl _) | (with_reducible apply Ext.drew) | (with_reducible apply Ext.drewN) | (with_reducible refine Ext.trans ?_ (by assumption)))))).mono ?_); rintro e wk ⟨rfl, hxk⟩)
      )
    all_goals go_wp2_with fail
    all_goals go_ret
    all_goals exact ⟨rfl, hE1.trans (show Later V _ by first | assumption | (apply Later.drew; assumption) | (apply Later.drewN; assumption))⟩
  have e2 : (Y.sign == 0) = false := by simpa using hzy
  obtain ⟨sy, hsy⟩ : ∃ s, s = Y.sign := ⟨_, rfl⟩
  rw [← hsy] at e2 ⊢
  clear hsy
  obtain ⟨g1, g2, g3, g4, g5, g6⟩ := gcd_law hzx hzy HG.out
  have G1 := Lib.hid g1
  clear hzx hzy g1 HG
  go_wp2_with fail
  refine (Div_any _ _ X G 80 _ (hX.ext l5) (hg.ext l5) bX (by decide) G1.out).mono ?_
  rintro e w6 ⟨q, r, rfl, hq, hr, hx6⟩
  have l6 : Later V w6 := l5.step hx6
  obtain ⟨pq, Aq, nq, cq, rfl⟩ := hq.shape
  obtain ⟨pr, Ar, nr, cr, rfl⟩ := hr.shape
  have bP := tdiv_boundG G bX
  have bQ := tdiv_boundG G bY
  rw [g3] at hr
  obtain ⟨P, hP⟩ : ∃ P, P = X.tdiv G := ⟨_, rfl⟩
  obtain ⟨Q, hQ⟩ : ∃ P, P = Y.tdiv G := ⟨_, rfl⟩
  rw [← hP] at hq bP g5
  rw [← hQ] at bQ g5
  go_upto_region 10 with fail
  obtain ⟨Bq, Br, hE6⟩ := boxes2 w6 25 #[.bool pq, .slice Aq nq cq] #[.bool pr, .slice Ar nr cr]
  have hq := hq.ext hE6
  have hr := hr.ext hE6
  have l6 : Later V _ := l6.step hE6
  generalize ((w6.alloc (.cells #[.bool pq, .slice Aq nq cq] 25)).alloc (.cells #[.bool pr, .slice Ar nr cr] 25)) = U at *
  clear hE6 hx6 l5 hx5
  go_wp2_with fail
  refine (Div_any _ _ Y G 80 _ (hY.ext l6) (hg.ext l6) bY (by decide) G1.out).mono ?_
  rintro e w7 ⟨q', r', rfl, hq', hr', hx7⟩
  obtain ⟨pu, Au, nu, cu, rfl⟩ := hq'.shape
  obtain ⟨pt', At, nt, ct, rfl⟩ := hr'.shape
  rw [g4] at hr'
  rw [← hQ] at hq'
  clear hP hQ g3 g4
  have Bq := Bq.ext hx7
  have Br := Br.ext hx7
  have hq := hq.ext hx7
  have hr := hr.ext hx7
  have l7 := l6.step hx7
  go_upto_region 11 with fail
  obtain ⟨Bu, Bt, hE7⟩ := boxes2 w7 25 #[.bool pu, .slice Au nu cu] #[.bool pt', .slice At nt ct]
  have Bq := Bq.ext hE7
  have Br := Br.ext hE7
  have hq := hq.ext hE7
  have hr := hr.ext hE7
  have hq' := hq'.ext hE7
  have hr' := hr'.ext hE7
  have l7 := l7.step hE7
  have B5 := B5.ext l7
  have B6 := B6.ext l7
  have Bg := Bg.ext l7
  have hXX := hXX.ext l7
  have hYY := hYY.ext l7
  have hGG := hGG.ext l7
  have hEf := hE1.trans l7
  clear k50 k51 k60 k61 k80 k81 ks hX hY hg hE7 hx7 l6 hx4
  generalize ((w7.alloc (.cells #[.bool pu, .slice Au nu cu] 25)).alloc (.cells #[.bool pt', .slice At nt ct] 25)) = T at *
  have k50 : ∀ w', Later T w' → w'.cell? ⟨w2.heap.size, 0, none⟩ = some (.bool p2) := fun w' h => (B5.ext h).c0
  have k51 : ∀ w', Later T w' → w'.cell? ⟨w2.heap.size, 1, none⟩ = some (.slice A2 k2 c2) := fun w' h => (B5.ext h).c1
  have k60 : ∀ w', Later T w' → w'.cell? ⟨w2.heap.size + 1, 0, none⟩ = some (.bool p3) := fun w' h => (B6.ext h).c0
  have k61 : ∀ w', Later T w' → w'.cell? ⟨w2.heap.size + 1, 1, none⟩ = some (.slice A3 k3 c3) := fun w' h => (B6.ext h).c1
  have k80 : ∀ w', Later T w' → w'.cell? ⟨w3.heap.size, 0, none⟩ = some (.bool pg) := fun w' h => (Bg.ext h).c0
  have k81 : ∀ w', Later T w' → w'.cell? ⟨w3.heap.size, 1, none⟩ = some (.slice Ag ng cg) := fun w' h => (Bg.ext h).c1
  have k90 : ∀ w', Later T w' → w'.cell? ⟨w6.heap.size, 0, none⟩ = some (.bool pq) := fun w' h => (Bq.ext h).c0
  have k91 : ∀ w', Later T w' → w'.cell? ⟨w6.heap.size, 1, none⟩ = some (.slice Aq nq cq) := fun w' h => (Bq.ext h).c1
  have ka0 : ∀ w', Later T w' → w'.cell? ⟨w6.heap.size + 1, 0, none⟩ = some (.bool pr) := fun w' h => (Br.ext h).c0
  have ka1 : ∀ w', Later T w' → w'.cell? ⟨w6.heap.size + 1, 1, none⟩ = some (.slice Ar nr cr) := fun w' h => (Br.ext h).c1
  have kb0 : ∀ w', Later T w' → w'.cell? ⟨w7.heap.size, 0, none⟩ = some (.bool pu) := fun w' h => (Bu.ext h).c0
  have kb1 : ∀ w', Later T w' → w'.cell? ⟨w7.heap.size, 1, none⟩ = some (.slice Au nu cu) := fun w' h => (Bu.ext h).c1
  have kc0 : ∀ w', Later T w' → w'.cell? ⟨w7.heap.size + 1, 0, none⟩ = some (.bool pt') := fun w' h => (Bt.ext h).c0
  have kc1 : ∀ w', Later T w' → w'.cell? ⟨w7.heap.size + 1, 1, none⟩ = some (.slice At nt ct) := fun w' h => (Bt.ext h).c1
  have ks := Later.refl T
  have hPP : BigB T _ P 80 := ⟨hq, bP⟩
  have hQQ : BigB T _ Q 80 := ⟨hq', bQ⟩
  have hRR : BigB T _ 0 80 := ⟨hr, show (0 : Int).natAbs < pw 80 from pw_pos 80⟩
  have hTT : BigB T _ 0 80 := ⟨hr', show (0 : Int).natAbs < pw 80 from pw_pos 80⟩
  clear B5 B6 Bg Bq Br Bu Bt hq hr hq' hr' bX bY bG bP bQ G1 hE1 l7
  go_region_held3 (fun w' => Later T w') ((repeat (first | assumption | apply Later.drew | apply Later.drewN | apply Later.alloc | (refine Later.step ?_ (by assumption))))) (first
      | (go_at_call 24; (with_reducible refine (Add_b _ _ _ _ _ _ _ (BigB.ext (by assumption) (by repeat (first | (with_reducible exact Ext.refl _) | (with_reducible apply Ext.drew) | (with_reducible apply Ext.drewN) | (with_reducible refine Ext.trans ?_ (by assumption))))) (BigB.ext (by assumption) (by repeat (first | (with_reducible exact Ext.refl _) | (with_reducible apply Ext.drew) | (with_reducible apply Ext.drewN) | (with_reducible refine Ext.trans ?_ (by assumption))))) (by decide)).mono ?_); rintro e wk ⟨vk, rfl, hbk, hxk⟩; (obtain ⟨pk, Ak, nk, ck, rfl⟩ := hbk.1.shape))
      | (go_at_call 28; (with_reducible refine (Sub_b _ _ _ _ _ _ _ (BigB.ext (by assumption) (by repeat (first | (with_reducible exact Ext.refl _) | (with_reducible apply Ext.drew) | (with_reducible apply Ext.drewN) | (with_reducible refine Ext.trans ?_ (by assumption))))) (BigB.ext (by assumption) (by repeat (first | (with_reducible exact Ext.refl _) | (with_reducible apply Ext.drew) | (with_reducible apply Ext.drewN) | (with_reducible refine Ext.trans ?_ (by assumption))))) (by decide)).mono ?_); rintro e wk ⟨vk, rfl, hbk, hxk⟩; (obtain ⟨pk, Ak, nk, ck, rfl⟩ := hbk.1.shape))
      | (go_at_call 23; (with_reducible refine (Mul_b _ _ _ _ _ _ _ (BigB.ext (by assumption) (by repeat (first | (with_reducible exact Ext.refl _) | (with_reducible apply Ext.drew) | (with_reducible apply Ext.drewN) | (with_reducible refine Ext.trans ?_ (by assumption))))) (BigB.ext (by assumption) (by repeat (first | (with_reducible exact Ext.refl _) | (with_reducible apply Ext.drew) | (with_reducible apply Ext.drewN) | (with_reducible refine Ext.trans ?_ (by assumption))))) (by decide)).mono ?_); rintro e wk ⟨vk, rfl, hbk, hxk⟩; (obtain ⟨pk, Ak, nk, ck, rfl⟩ := hbk.1.shape))
      | (go_at_call 27; (with_reducible refine (Neg_b _ _ _ _ (BigB.ext (by assumption) (by repeat (first | (with_reducible exact Ext.refl _) | (with_reducible apply Ext.drew) | (with_reducible apply Ext.drewN) | (with_reducible refine Ext.trans ?_ (by assumption)))))).mono ?_); rintro e wk ⟨vk, rfl, hbk, hxk⟩; (obtain ⟨pk, Ak, nk, ck, rfl⟩ := hbk.1.shape))
      | (go_at_call 25; (with_reducible refine (abs_b _ _ _ _ (BigB.ext (by assumption) (by repeat (first | (with_reducible exact Ext.refl _) | (with_reducible apply Ext.drew) | (with_reducible apply Ext.drewN) | (with_reducible refine Ext.trans ?_ (by assumption)))))).mono ?_); rintro e wk ⟨vk, rfl, hbk, hxk⟩; (obtain ⟨pk, Ak, nk, ck, rfl⟩ := hbk.1.shape))
      | (go_at_call 20; (with_reducible refine (Cmp_eqb _ _ _ _ _ _ _ (BigB.ext (by assumption) (by repeat (first | (with_reducible exact Ext.refl _) | (with_reducible apply Ext.drew) | (with_reducible apply Ext.drewN) | (with_reducible refine Ext.trans ?_ (by assumption))))) (BigB.ext (by assumption) (by repeat (first | (with_reducible exact Ext.refl _) | (with_reducible apply Ext.drew) | (with_reducible apply Ext.drewN) | (with_reducible refine Ext.trans ?_ (by assumption))))) (by first | exact Int.add_comm _ _ | exact Int.mul_comm _ _ | exact Int.add_assoc _ _ _ | exact Int.mul_assoc _ _ _ | exact Int.mul_add _ _ _ | exact Int.sub_eq_add_neg | assumption | exact rfl)).mono ?_); rintro e wk ⟨rfl, hxk⟩)
      | (go_at_call 20; (with_reducible refine (Cmp_b _ _ _ _ _ _ _ (BigB.ext (by assumption) (by repeat (first | (with_reducible exact Ext.refl _) | (with_reducible apply Ext.drew) | (with_reducible apply Ext.drewN) | (with_reducible refine Ext.trans ?_ (by assumption))))) (BigB.ext (by assumption) (by repeat (first | (with_reducible exact Ext.refl _) | (with_reducible apply Ext.drew) | (with_reducible apply Ext.drewN) | (with_reducible refine Ext.trans ?_ (by assumption)))))).mono ?_); rintro e wk ⟨rfl, hxk⟩)
      | (go_at_call 16; (with_reducible refine (Sign_b _ _ _ _ (BigB.ext (by assumption) (by repeat (first | (with_reducible exact Ext.refl _) | (with_reducible apply Ext.drew) | (with_reducible apply Ext.drewN) | (with_reducible refine Ext.trans ?_ (by assumption)))))).mono ?_); rintro e wk ⟨rfl, hxk⟩)
      | (go_at_call 35; (with_reducible refine (Gcd_b _ _ _ _ _ _ _ (BigB.ext (by assumption) (by repeat (first | (with_reducible exact Ext.refl _) | (with_reducible apply Ext.drew) | (with_reducible apply Ext.drewN) | (with_reducible refine Ext.trans ?_ (by assumption))))) (BigB.ext (by assumption) (by repeat (first | (with_reducible exact Ext.refl _) | (with_reducible apply Ext.drew) | (with_reducible apply Ext.drewN) | (with_reducible refine Ext.trans ?_ (by assumption))))) (by decide)).mono ?_); rintro e wk ⟨vk, rfl, hbk, hxk⟩; (obtain ⟨pk, Ak, nk, ck, rfl⟩ := hbk.1.shape))
      | (go_at_call 18; (with_reducible refine (Of_b _ _ (by first | assumption | decide) (by first | assumption | decide)).mono ?_); rintro e wk ⟨vk, rfl, hbk, hxk⟩; (obtain ⟨pk, Ak, nk, ck, rfl⟩ := hbk.1.shape))
    )
  all_goals go_wp2_with fail
  all_goals go_ret
  all_goals exact ⟨rfl, hEf.trans (show Later T _ by first | assumption | (apply Later.drew; assumption) | (apply Later.drewN; assumption))⟩
end Go.Proofs.YtnojllmidpdbcaaDoor.Big
