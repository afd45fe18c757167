/- Walk: the law BigintComputes. -/
import Derived.Test.YtnojllmidpdbcaaDoorR8
set_option linter.unusedVariables false
set_option linter.unusedSimpArgs false
namespace Go.Proofs.YtnojllmidpdbcaaDoor.Ten
open Go.RowKit Go.Proofs.YtnojllmidpdbcaaDoor.Big
open Go.Lib (itoa)

set_option maxRecDepth 100000 in
set_option maxHeartbeats 16000000 in
theorem computes_any (s t : ByteArray) (w : World) (htab : TabOK w) :
    Calls Tryd.prog 9 #[.string s, .string t] w (fun e w' => e = .returned (.bool true) ∧ Ext w w') := by
  go_enter Tryd.func9, Tryd.ntmps9
  go_wp2_with fail
  refine (awake_any _ htab).mono ?_
  rintro e w1 ⟨rfl, hx1⟩
  go_wp2_with fail
  refine (two_any s t _).mono ?_
  rintro e w2 ⟨v2, v3, X, Y, rfl, hX0, hY0, hXY, hx2⟩
  obtain ⟨p2, A2, k2, c2, rfl⟩ := hX0.shape
  obtain ⟨p3, A3, k3, c3, rfl⟩ := hY0.shape
  obtain ⟨o1, ho1⟩ : ∃ o, o = (okT s && okT t) := ⟨_, rfl⟩
  rw [← ho1]
  have HXY := Lib.hid hXY
  have HO1 := Lib.hid ho1
  clear hXY ho1
  go_upto_region 4 with fail
  obtain ⟨B7, B8, hE⟩ := boxes2 w2 25 #[.bool p2, .slice A2 k2 c2] #[.bool p3, .slice A3 k3 c3]
  have hX := hX0.ext hE
  have hY := hY0.ext hE
  have hE0 := (hx1.trans hx2).trans hE
  generalize ((w2.alloc (.cells #[.bool p2, .slice A2 k2 c2] 25)).alloc (.cells #[.bool p3, .slice A3 k3 c3] 25)) = W at *
  clear hE hx1 hx2 hX0 hY0
  have k70 : ∀ w', Ext W w' → w'.cell? ⟨w2.heap.size, 0, none⟩ = some (.bool p2) := fun w' h => (B7.ext h).c0
  have k71 : ∀ w', Ext W w' → w'.cell? ⟨w2.heap.size, 1, none⟩ = some (.slice A2 k2 c2) := fun w' h => (B7.ext h).c1
  have k80 : ∀ w', Ext W w' → w'.cell? ⟨w2.heap.size + 1, 0, none⟩ = some (.bool p3) := fun w' h => (B8.ext h).c0
  have k81 : ∀ w', Ext W w' → w'.cell? ⟨w2.heap.size + 1, 1, none⟩ = some (.slice A3 k3 c3) := fun w' h => (B8.ext h).c1
  have hS0 := Ext.refl W
  cases o1
  case false =>
    go_wp2_with fail
    go_ret
    exact ⟨rfl, hE0⟩
  have hos := HO1.out
  simp only [Bool.true_eq, Bool.and_eq_true] at hos
  have hXv := (HXY.out hos.1 hos.2).1
  have hYv := (HXY.out hos.1 hos.2).2
  have bX : B 80 X := by rw [hXv]; exact parse_bound hos.1
  have bY : B 80 Y := by rw [hYv]; exact parse_bound hos.2
  have tX : BT 80 X := by rw [hXv]; exact parse_boundT hos.1
  have tY : BT 80 Y := by rw [hYv]; exact parse_boundT hos.2
  have dS : isDec s.data.toList = true ∧ s.size ≤ 80 := by have := hos.1; unfold okT at this; simp at this; exact ⟨this.2, this.1⟩
  have dT : isDec t.data.toList = true ∧ t.size ≤ 80 := by have := hos.2; unfold okT at this; simp at this; exact ⟨this.2, this.1⟩
  have sS : (⟨(itoa X).toArray⟩ : ByteArray) = s := by rw [hXv, itoa_parse dS.1]
  have sT : (⟨(itoa Y).toArray⟩ : ByteArray) = t := by rw [hYv, itoa_parse dT.1]
  have SS := Lib.hid sS
  have ST := Lib.hid sT
  have DS := Lib.hid dS
  have DT := Lib.hid dT
  have XV := Lib.hid hXv
  have YV := Lib.hid hYv
  clear hos HXY HO1 hXv hYv sS sT dS dT
  go_wp2_with fail
  refine (Ten.Parse_any s _ (by have := DS.out.2; omega)).mono ?_
  rintro e w3 ⟨v3, u, rfl, hu, hu1, -, hx3⟩
  obtain rfl : u = X := (hu1 DS.out.1).trans XV.out.symm
  obtain ⟨s3, A3', n3, c3', rfl, hs3⟩ := hu.shape
  have HS3 := Lib.hid hs3
  clear hu1 hs3
  go_upto_region 7 with fail
  have hE3 : Ext w3 (w3.alloc (.cells #[.int .i64 s3, .slice A3' n3 c3'] 31)) := (Ext.refl w3).alloc _
  have Bu := Box.new w3 31 #[.int .i64 s3, .slice A3' n3 c3']
  have hu := hu.ext hE3
  have h3 : Ext W _ := hx3.trans hE3
  generalize (w3.alloc (.cells #[.int .i64 s3, .slice A3' n3 c3'] 31)) = W3 at *
  clear hE3 hx3
  go_wp2_with fail
  refine (Ten.Parse_any t _ (by have := DT.out.2; omega)).mono ?_
  rintro e w4 ⟨v4, v, rfl, hv, hv1, -, hx4⟩
  obtain rfl : v = Y := (hv1 DT.out.1).trans YV.out.symm
  obtain ⟨s4, A4', n4, c4', rfl, hs4⟩ := hv.shape
  have HS4 := Lib.hid hs4
  clear hv1 hs4
  go_upto_region 8 with fail
  have hE4 : Ext w4 (w4.alloc (.cells #[.int .i64 s4, .slice A4' n4 c4'] 31)) := (Ext.refl w4).alloc _
  have Bv := Box.new w4 31 #[.int .i64 s4, .slice A4' n4 c4']
  have hv := hv.ext hE4
  have Bu := (Bu.ext hx4).ext hE4
  have hu := (hu.ext hx4).ext hE4
  have h4 : Ext W _ := (h3.trans hx4).trans hE4
  have B5 := B7.ext h4
  have B6 := B8.ext h4
  have hX := hX.ext h4
  have hY := hY.ext h4
  have hE5 := hE0.trans h4
  have hTab := htab.ext hE5
  clear hE4 hx4 h3 h4 k70 k71 k80 k81 B7 B8 hE0 hS0
  generalize (w4.alloc (.cells #[.int .i64 s4, .slice A4' n4 c4'] 31)) = V at *
  have k50 : ∀ w', Later V w' → w'.cell? ⟨w2.heap.size, 0, none⟩ = some (.bool p2) := fun w' h => (B5.ext h).c0
  have k51 : ∀ w', Later V w' → w'.cell? ⟨w2.heap.size, 1, none⟩ = some (.slice A2 k2 c2) := fun w' h => (B5.ext h).c1
  have k60 : ∀ w', Later V w' → w'.cell? ⟨w2.heap.size + 1, 0, none⟩ = some (.bool p3) := fun w' h => (B6.ext h).c0
  have k61 : ∀ w', Later V w' → w'.cell? ⟨w2.heap.size + 1, 1, none⟩ = some (.slice A3 k3 c3) := fun w' h => (B6.ext h).c1
  have k80 : ∀ w', Later V w' → w'.cell? ⟨w3.heap.size, 0, none⟩ = some (.int .i64 s3) := fun w' h => (Bu.ext h).c0
  have k81 : ∀ w', Later V w' → w'.cell? ⟨w3.heap.size, 1, none⟩ = some (.slice A3' n3 c3') := fun w' h => (Bu.ext h).c1
  have k90 : ∀ w', Later V w' → w'.cell? ⟨w4.heap.size, 0, none⟩ = some (.int .i64 s4) := fun w' h => (Bv.ext h).c0
  have k91 : ∀ w', Later V w' → w'.cell? ⟨w4.heap.size, 1, none⟩ = some (.slice A4' n4 c4') := fun w' h => (Bv.ext h).c1
  have ks := Later.refl V
  have hXX : BigB V _ u 80 := ⟨hX, bX⟩
  have hYY : BigB V _ v 80 := ⟨hY, bY⟩
  have hUU : NumB V _ u 80 := ⟨hu, tX⟩
  have hVV : NumB V _ v 80 := ⟨hv, tY⟩
  have hsub : itoa (u - v) = itoa (u + -v) := by rw [Int.sub_eq_add_neg]
  go_region_held3 (fun w' => Later V w') ((repeat (first | assumption | apply Later.drew | apply Later.drewN | apply Later.alloc | (refine Later.step ?_ (by assumption))))) (first
      | (go_at_call 24; (with_reducible refine (Add_b _ _ _ _ _ _ _ (BigB.ext (by assumption) (by repeat (first | (with_reducible exact Ext.refl _) | (with_reducible apply Ext.drew) | (with_reducible apply Ext.drewN) | (with_reducible refine Ext.trans ?_ (by assumption))))) (BigB.ext (by assumption) (by repeat (first | (with_reducible exact Ext.refl _) | (with_reducible apply Ext.drew) | (with_reducible apply Ext.drewN) | (with_reducible refine Ext.trans ?_ (by assumption))))) (by decide)).mono ?_); rintro e wk ⟨vk, rfl, hbk, hxk⟩; (obtain ⟨pk, Ak, nk, ck, rfl⟩ := hbk.1.shape))
      | (go_at_call 28; (with_reducible refine (Sub_b _ _ _ _ _ _ _ (BigB.ext (by assumption) (by repeat (first | (with_reducible exact Ext.refl _) | (with_reducible apply Ext.drew) | (with_reducible apply Ext.drewN) | (with_reducible refine Ext.trans ?_ (by assumption))))) (BigB.ext (by assumption) (by repeat (first | (with_reducible exact Ext.refl _) | (with_reducible apply Ext.drew) | (with_reducible apply Ext.drewN) | (with_reducible refine Ext.trans ?_ (by assumption))))) (by decide)).mono ?_); rintro e wk ⟨vk, rfl, hbk, hxk⟩; (obtain ⟨pk, Ak, nk, ck, rfl⟩ := hbk.1.shape))
      | (go_at_call 23; (with_reducible refine (Mul_b _ _ _ _ _ _ _ (BigB.ext (by assumption) (by repeat (first | (with_reducible exact Ext.refl _) | (with_reducible apply Ext.drew) | (with_reducible apply Ext.drewN) | (with_reducible refine Ext.trans ?_ (by assumption))))) (BigB.ext (by assumption) (by repeat (first | (with_reducible exact Ext.refl _) | (with_reducible apply Ext.drew) | (with_reducible apply Ext.drewN) | (with_reducible refine Ext.trans ?_ (by assumption))))) (by decide)).mono ?_); rintro e wk ⟨vk, rfl, hbk, hxk⟩; (obtain ⟨pk, Ak, nk, ck, rfl⟩ := hbk.1.shape))
      | (go_at_call 27; (with_reducible refine (Neg_b _ _ _ _ (BigB.ext (by assumption) (by repeat (first | (with_reducible exact Ext.refl _) | (with_reducible apply Ext.drew) | (with_reducible apply Ext.drewN) | (with_reducible refine Ext.trans ?_ (by assumption)))))).mono ?_); rintro e wk ⟨vk, rfl, hbk, hxk⟩; (obtain ⟨pk, Ak, nk, ck, rfl⟩ := hbk.1.shape))
      | (go_at_call 25; (with_reducible refine (abs_b _ _ _ _ (BigB.ext (by assumption) (by repeat (first | (with_reducible exact Ext.refl _) | (with_reducible apply Ext.drew) | (with_reducible apply Ext.drewN) | (with_reducible refine Ext.trans ?_ (by assumption)))))).mono ?_); rintro e wk ⟨vk, rfl, hbk, hxk⟩; (obtain ⟨pk, Ak, nk, ck, rfl⟩ := hbk.1.shape))
      | (go_at_call 20; (with_reducible refine (Cmp_eqb _ _ _ _ _ _ _ (BigB.ext (by assumption) (by repeat (first | (with_reducible exact Ext.refl _) | (with_reducible apply Ext.drew) | (with_reducible apply Ext.drewN) | (with_reducible refine Ext.trans ?_ (by assumption))))) (BigB.ext (by assumption) (by repeat (first | (with_reducible exact Ext.refl _) | (with_reducible apply Ext.drew) | (with_reducible apply Ext.drewN) | (with_reducible refine Ext.trans ?_ (by assumption))))) (by first | exact Int.add_comm _ _ | exact Int.mul_comm _ _ | exact Int.add_assoc _ _ _ | exact Int.mul_assoc _ _ _ | exact Int.mul_add _ _ _ | exact Int.sub_eq_add_neg | assumption | exact rfl)).mono ?_); rintro e wk ⟨rfl, hxk⟩)
      | (go_at_call 20; (with_reducible refine (Cmp_b _ _ _ _ _ _ _ (BigB.ext (by assumption) (by repeat (first | (with_reducible exact Ext.refl _) | (with_reducible apply Ext.drew) | (with_reducible apply Ext.drewN) | (with_reducible refine Ext.trans ?_ (by assumption))))) (BigB.ext (by assumption) (by repeat (first | (with_reducible exact Ext.refl _) | (with_reducible apply Ext.drew) | (with_reducible apply Ext.drewN) | (with_reducible refine Ext.trans ?_ (by assumption)))))).mono ?_); rintro e wk ⟨rfl, hxk⟩)
      | (go_at_call 16; (with_reducible refine (Sign_b _ _ _ _ (BigB.ext (by assumption) (by repeat (first | (with_reducible exact Ext.refl _) | (with_reducible apply Ext.drew) | (with_reducible apply Ext.drewN) | (with_reducible refine Ext.trans ?_ (by assumption)))))).mono ?_); rintro e wk ⟨rfl, hxk⟩)
      | (go_at_call 17; (with_reducible refine (Text_b _ _ _ _ (BigB.ext (by assumption) (by repeat (first | (with_reducible exact Ext.refl _) | (with_reducible apply Ext.drew) | (with_reducible apply Ext.drewN) | (with_reducible refine Ext.trans ?_ (by assumption))))) (by decide) (TabOK.ext hTab (by repeat (first | (with_reducible exact Ext.refl _) | (with_reducible apply Ext.drew) | (with_reducible apply Ext.drewN) | (with_reducible refine Ext.trans ?_ (by assumption)))))).mono ?_); rintro e wk ⟨rfl, hxk⟩)
      | (go_at_call 29; (with_reducible refine (RText_b _ _ _ _ (NumB.ext (by assumption) (by repeat (first | (with_reducible exact Ext.refl _) | (with_reducible apply Ext.drew) | (with_reducible apply Ext.drewN) | (with_reducible refine Ext.trans ?_ (by assumption))))) (by decide)).mono ?_); rintro e wk ⟨rfl, hxk⟩)
      | (go_at_call 30; (with_reducible refine (RAdd_b _ _ _ _ _ _ _ (NumB.ext (by assumption) (by repeat (first | (with_reducible exact Ext.refl _) | (with_reducible apply Ext.drew) | (with_reducible apply Ext.drewN) | (with_reducible refine Ext.trans ?_ (by assumption))))) (NumB.ext (by assumption) (by repeat (first | (with_reducible exact Ext.refl _) | (with_reducible apply Ext.drew) | (with_reducible apply Ext.drewN) | (with_reducible refine Ext.trans ?_ (by assumption))))) (by decide)).mono ?_); rintro e wk ⟨vk, rfl, hbk, hxk⟩; (obtain ⟨sk, Ak, nk, ck, rfl⟩ := hbk.shape))
      | (go_at_call 32; (with_reducible refine (RMul_b _ _ _ _ _ _ _ (NumB.ext (by assumption) (by repeat (first | (with_reducible exact Ext.refl _) | (with_reducible apply Ext.drew) | (with_reducible apply Ext.drewN) | (with_reducible refine Ext.trans ?_ (by assumption))))) (NumB.ext (by assumption) (by repeat (first | (with_reducible exact Ext.refl _) | (with_reducible apply Ext.drew) | (with_reducible apply Ext.drewN) | (with_reducible refine Ext.trans ?_ (by assumption))))) (by decide)).mono ?_); rintro e wk ⟨vk, rfl, hbk, hxk⟩; (obtain ⟨sk, Ak, nk, ck, rfl⟩ := hbk.shape))
      | (go_at_call 31; (with_reducible refine (RNeg_b _ _ _ _ (NumB.ext (by assumption) (by repeat (first | (with_reducible exact Ext.refl _) | (with_reducible apply Ext.drew) | (with_reducible apply Ext.drewN) | (with_reducible refine Ext.trans ?_ (by assumption)))))).mono ?_); rintro e wk ⟨vk, rfl, hbk, hxk⟩; (obtain ⟨sk, Ak, nk, ck, rfl⟩ := hbk.shape))
      | (go_at_call 33; (with_reducible refine (RCmp_b _ _ _ _ _ _ _ (NumB.ext (by assumption) (by repeat (first | (with_reducible exact Ext.refl _) | (with_reducible apply Ext.drew) | (with_reducible apply Ext.drewN) | (with_reducible refine Ext.trans ?_ (by assumption))))) (NumB.ext (by assumption) (by repeat (first | (with_reducible exact Ext.refl _) | (with_reducible apply Ext.drew) | (with_reducible apply Ext.drewN) | (with_reducible refine Ext.trans ?_ (by assumption))))) (by decide)).mono ?_); rintro e wk ⟨rfl, hxk⟩)
    )
  all_goals go_upto_region 10 with fail
  have hW0 : Later V _ := (show Later V _ by first | assumption | (apply Later.drew; assumption) | (apply Later.drewN; assumption))
  clear hsub
  by_cases hy0 : v = 0
  · have hs4 : s4 = 0 := by rw [HS4.out, hy0]; rfl
    have hYz : BigV V (.agg #[.bool p3, .slice A3 k3 c3]) 0 := by rw [← hy0]; exact hY
    clear hy0 hYY hVV
    subst hs4
    go_wp2_with fail
    refine (Div_zero _ _ u _ (hX.ext hW0) (hYz.ext hW0)).mono ?_
    rintro e w6 ⟨rfl, hx6⟩
    have l6 := hW0.step hx6
    go_upto_region 11 with fail
    obtain ⟨Bq, Br, hE6⟩ := boxes2 w6 25 #[.bool false, .slice none 0 0] #[.bool false, .slice none 0 0]
    have l7 := l6.step hE6
    have hEf := hE5.trans l7
    have qv := k90 _ l7
    clear hE6 hx6 l6 hW0 ks k50 k51 k60 k61 k80 k81 k90 k91
    generalize ((w6.alloc (.cells #[.bool false, .slice none 0 0] 25)).alloc (.cells #[.bool false, .slice none 0 0] 25)) = U at *
    have q0 := Bq.c0
    have q1 := Bq.c1
    go_wp2_with fail
    refine (Sign_any _ 0 _ (BigV.zero _)).mono ?_
    rintro e w8 ⟨rfl, hx8⟩
    have q0 := (Br.ext hx8).c0
    have q1 := (Br.ext hx8).c1
    rw [show Int.sign 0 = 0 from rfl]
    go_wp2_with fail
    refine (Sign_any _ 0 _ (BigV.zero _)).mono ?_
    rintro e w9 ⟨rfl, hx9⟩
    rw [show Int.sign 0 = 0 from rfl]
    go_wp2_with fail
    go_ret
    exact ⟨rfl, (hEf.trans hx8).trans hx9⟩
  have e4 : (s4 == 0) = false := by rw [HS4.out]; exact sign_beq hy0
  have HY0 := Lib.hid hy0
  clear hy0
  go_wp2_with fail
  refine (Big.Div_any _ _ u v 80 _ (hX.ext hW0) (hY.ext hW0) bX (by decide) HY0.out).mono ?_
  rintro e w6 ⟨q, r, rfl, hq, hr, hx6⟩
  have l6 := hW0.step hx6
  obtain ⟨pq, Aq, nq, cq, rfl⟩ := hq.shape
  obtain ⟨pr, Ar, nr, cr, rfl⟩ := hr.shape
  have bQ := tdiv_bound v bX
  have bR := tmod_bound v bX
  have tQ := BT_tdiv v tX
  have tR := BT_tmod v tX
  go_upto_region 11 with fail
  obtain ⟨Bq, Br, hE6⟩ := boxes2 w6 25 #[.bool pq, .slice Aq nq cq] #[.bool pr, .slice Ar nr cr]
  have hq := hq.ext hE6
  have hr := hr.ext hE6
  have l7 := l6.step hE6
  clear hE6 hx6 l6 hW0
  generalize ((w6.alloc (.cells #[.bool pq, .slice Aq nq cq] 25)).alloc (.cells #[.bool pr, .slice Ar nr cr] 25)) = U at *
  go_wp2_with fail
  refine (Ten.Div_any _ _ u v 80 _ (hu.ext l7) (hv.ext l7) tX tY (by decide) HY0.out).mono ?_
  rintro e w8 ⟨q', r', rfl, hq', hr', hx8⟩
  obtain ⟨s5, A5, n5, c5, rfl, hs5⟩ := hq'.shape
  obtain ⟨s6, A6, n6, c6, rfl, hs6⟩ := hr'.shape
  clear hs5 hs6
  go_upto_region 14 with fail
  obtain ⟨Bw, Bz, hE8⟩ := boxes2 w8 31 #[.int .i64 s5, .slice A5 n5 c5] #[.int .i64 s6, .slice A6 n6 c6]
  have hq' := hq'.ext hE8
  have hr' := hr'.ext hE8
  have l9 : Ext U _ := hx8.trans hE8
  have Bq := Bq.ext l9
  have Br := Br.ext l9
  have hq := hq.ext l9
  have hr := hr.ext l9
  have l10 := l7.step l9
  have B5 := B5.ext l10
  have B6 := B6.ext l10
  have hXX := hXX.ext l10
  have hYY := hYY.ext l10
  have hTab := hTab.ext l10
  have hEf := hE5.trans l10
  clear hE8 hx8 l7 l9 l10 ks k50 k51 k60 k61 k80 k81 k90 k91 hX hY hu hv hUU hVV Bu Bv
  generalize ((w8.alloc (.cells #[.int .i64 s5, .slice A5 n5 c5] 31)).alloc (.cells #[.int .i64 s6, .slice A6 n6 c6] 31)) = T at *
  have k50 : ∀ w', Later T w' → w'.cell? ⟨w2.heap.size, 0, none⟩ = some (.bool p2) := fun w' h => (B5.ext h).c0
  have k51 : ∀ w', Later T w' → w'.cell? ⟨w2.heap.size, 1, none⟩ = some (.slice A2 k2 c2) := fun w' h => (B5.ext h).c1
  have k60 : ∀ w', Later T w' → w'.cell? ⟨w2.heap.size + 1, 0, none⟩ = some (.bool p3) := fun w' h => (B6.ext h).c0
  have k61 : ∀ w', Later T w' → w'.cell? ⟨w2.heap.size + 1, 1, none⟩ = some (.slice A3 k3 c3) := fun w' h => (B6.ext h).c1
  have ka0 : ∀ w', Later T w' → w'.cell? ⟨w6.heap.size, 0, none⟩ = some (.bool pq) := fun w' h => (Bq.ext h).c0
  have ka1 : ∀ w', Later T w' → w'.cell? ⟨w6.heap.size, 1, none⟩ = some (.slice Aq nq cq) := fun w' h => (Bq.ext h).c1
  have kb0 : ∀ w', Later T w' → w'.cell? ⟨w6.heap.size + 1, 0, none⟩ = some (.bool pr) := fun w' h => (Br.ext h).c0
  have kb1 : ∀ w', Later T w' → w'.cell? ⟨w6.heap.size + 1, 1, none⟩ = some (.slice Ar nr cr) := fun w' h => (Br.ext h).c1
  have kc0 : ∀ w', Later T w' → w'.cell? ⟨w8.heap.size, 0, none⟩ = some (.int .i64 s5) := fun w' h => (Bw.ext h).c0
  have kc1 : ∀ w', Later T w' → w'.cell? ⟨w8.heap.size, 1, none⟩ = some (.slice A5 n5 c5) := fun w' h => (Bw.ext h).c1
  have kd0 : ∀ w', Later T w' → w'.cell? ⟨w8.heap.size + 1, 0, none⟩ = some (.int .i64 s6) := fun w' h => (Bz.ext h).c0
  have kd1 : ∀ w', Later T w' → w'.cell? ⟨w8.heap.size + 1, 1, none⟩ = some (.slice A6 n6 c6) := fun w' h => (Bz.ext h).c1
  have ks := Later.refl T
  have hQQ : BigB T _ (u.tdiv v) 80 := ⟨hq, bQ⟩
  have hRR : BigB T _ (u.tmod v) 80 := ⟨hr, bR⟩
  have hWW : NumB T _ (u.tdiv v) 80 := ⟨hq', tQ⟩
  have hZZ : NumB T _ (u.tmod v) 80 := ⟨hr', tR⟩
  have eS := SS.out
  have eT := ST.out
  clear B5 B6 Bq Br Bw Bz hq hr hq' hr'
  go_region_held3 (fun w' => Later T w') ((repeat (first | assumption | apply Later.drew | apply Later.drewN | apply Later.alloc | (refine Later.step ?_ (by assumption))))) (first
      | (go_at_call 24; (with_reducible refine (Add_b _ _ _ _ _ _ _ (BigB.ext (by assumption) (by repeat (first | (with_reducible exact Ext.refl _) | (with_reducible apply Ext.drew) | (with_reducible apply Ext.drewN) | (with_reducible refine Ext.trans ?_ (by assumption))))) (BigB.ext (by assumption) (by repeat (first | (with_reducible exact Ext.refl _) | (with_reducible apply Ext.drew) | (with_reducible apply Ext.drewN) | (with_reducible refine Ext.trans ?_ (by assumption))))) (by decide)).mono ?_); rintro e wk ⟨vk, rfl, hbk, hxk⟩; (obtain ⟨pk, Ak, nk, ck, rfl⟩ := hbk.1.shape))
      | (go_at_call 28; (with_reducible refine (Sub_b _ _ _ _ _ _ _ (BigB.ext (by assumption) (by repeat (first | (with_reducible exact Ext.refl _) | (with_reducible apply Ext.drew) | (with_reducible apply Ext.drewN) | (with_reducible refine Ext.trans ?_ (by assumption))))) (BigB.ext (by assumption) (by repeat (first | (with_reducible exact Ext.refl _) | (with_reducible apply Ext.drew) | (with_reducible apply Ext.drewN) | (with_reducible refine Ext.trans ?_ (by assumption))))) (by decide)).mono ?_); rintro e wk ⟨vk, rfl, hbk, hxk⟩; (obtain ⟨pk, Ak, nk, ck, rfl⟩ := hbk.1.shape))
      | (go_at_call 23; (with_reducible refine (Mul_b _ _ _ _ _ _ _ (BigB.ext (by assumption) (by repeat (first | (with_reducible exact Ext.refl _) | (with_reducible apply Ext.drew) | (with_reducible apply Ext.drewN) | (with_reducible refine Ext.trans ?_ (by assumption))))) (BigB.ext (by assumption) (by repeat (first | (with_reducible exact Ext.refl _) | (with_reducible apply Ext.drew) | (with_reducible apply Ext.drewN) | (with_reducible refine Ext.trans ?_ (by assumption))))) (by decide)).mono ?_); rintro e wk ⟨vk, rfl, hbk, hxk⟩; (obtain ⟨pk, Ak, nk, ck, rfl⟩ := hbk.1.shape))
      | (go_at_call 27; (with_reducible refine (Neg_b _ _ _ _ (BigB.ext (by assumption) (by repeat (first | (with_reducible exact Ext.refl _) | (with_reducible apply Ext.drew) | (with_reducible apply Ext.drewN) | (with_reducible refine Ext.trans ?_ (by assumption)))))).mono ?_); rintro e wk ⟨vk, rfl, hbk, hxk⟩; (obtain ⟨pk, Ak, nk, ck, rfl⟩ := hbk.1.shape))
      | (go_at_call 25; (with_reducible refine (abs_b _ _ _ _ (BigB.ext (by assumption) (by repeat (first | (with_reducible exact Ext.refl _) | (with_reducible apply Ext.drew) | (with_reducible apply Ext.drewN) | (with_reducible refine Ext.trans ?_ (by assumption)))))).mono ?_); rintro e wk ⟨vk, rfl, hbk, hxk⟩; (obtain ⟨pk, Ak, nk, ck, rfl⟩ := hbk.1.shape))
      | (go_at_call 20; (with_reducible refine (Cmp_eqb _ _ _ _ _ _ _ (BigB.ext (by assumption) (by repeat (first | (with_reducible exact Ext.refl _) | (with_reducible apply Ext.drew) | (with_reducible apply Ext.drewN) | (with_reducible refine Ext.trans ?_ (by assumption))))) (BigB.ext (by assumption) (by repeat (first | (with_reducible exact Ext.refl _) | (with_reducible apply Ext.drew) | (with_reducible apply Ext.drewN) | (with_reducible refine Ext.trans ?_ (by assumption))))) (by first | exact Int.add_comm _ _ | exact Int.mul_comm _ _ | exact Int.add_assoc _ _ _ | exact Int.mul_assoc _ _ _ | exact Int.mul_add _ _ _ | exact Int.sub_eq_add_neg | assumption | exact rfl)).mono ?_); rintro e wk ⟨rfl, hxk⟩)
      | (go_at_call 20; (with_reducible refine (Cmp_b _ _ _ _ _ _ _ (BigB.ext (by assumption) (by repeat (first | (with_reducible exact Ext.refl _) | (with_reducible apply Ext.drew) | (with_reducible apply Ext.drewN) | (with_reducible refine Ext.trans ?_ (by assumption))))) (BigB.ext (by assumption) (by repeat (first | (with_reducible exact Ext.refl _) | (with_reducible apply Ext.drew) | (with_reducible apply Ext.drewN) | (with_reducible refine Ext.trans ?_ (by assumption)))))).mono ?_); rintro e wk ⟨rfl, hxk⟩)
      | (go_at_call 16; (with_reducible refine (Sign_b _ _ _ _ (BigB.ext (by assumption) (by repeat (first | (with_reducible exact Ext.refl _) | (with_reducible apply Ext.drew) | (with_reducible apply Ext.drewN) | (with_reducible refine Ext.trans ?_ (by assumption)))))).mono ?_); rintro e wk ⟨rfl, hxk⟩)
      | (go_at_call 17; (with_reducible refine (Text_b _ _ _ _ (BigB.ext (by assumption) (by repeat (first | (with_reducible exact Ext.refl _) | (with_reducible apply Ext.drew) | (with_reducible apply Ext.drewN) | (with_reducible refine Ext.trans ?_ (by assumption))))) (by decide) (TabOK.ext hTab (by repeat (first | (with_reducible exact Ext.refl _) | (with_reducible apply Ext.drew) | (with_reducible apply Ext.drewN) | (with_reducible refine Ext.trans ?_ (by assumption)))))).mono ?_); rintro e wk ⟨rfl, hxk⟩)
      | (go_at_call 29; (with_reducible refine (RText_b _ _ _ _ (NumB.ext (by assumption) (by repeat (first | (with_reducible exact Ext.refl _) | (with_reducible apply Ext.drew) | (with_reducible apply Ext.drewN) | (with_reducible refine Ext.trans ?_ (by assumption))))) (by decide)).mono ?_); rintro e wk ⟨rfl, hxk⟩)
      | (go_at_call 30; (with_reducible refine (RAdd_b _ _ _ _ _ _ _ (NumB.ext (by assumption) (by repeat (first | (with_reducible exact Ext.refl _) | (with_reducible apply Ext.drew) | (with_reducible apply Ext.drewN) | (with_reducible refine Ext.trans ?_ (by assumption))))) (NumB.ext (by assumption) (by repeat (first | (with_reducible exact Ext.refl _) | (with_reducible apply Ext.drew) | (with_reducible apply Ext.drewN) | (with_reducible refine Ext.trans ?_ (by assumption))))) (by decide)).mono ?_); rintro e wk ⟨vk, rfl, hbk, hxk⟩; (obtain ⟨sk, Ak, nk, ck, rfl⟩ := hbk.shape))
      | (go_at_call 32; (with_reducible refine (RMul_b _ _ _ _ _ _ _ (NumB.ext (by assumption) (by repeat (first | (with_reducible exact Ext.refl _) | (with_reducible apply Ext.drew) | (with_reducible apply Ext.drewN) | (with_reducible refine Ext.trans ?_ (by assumption))))) (NumB.ext (by assumption) (by repeat (first | (with_reducible exact Ext.refl _) | (with_reducible apply Ext.drew) | (with_reducible apply Ext.drewN) | (with_reducible refine Ext.trans ?_ (by assumption))))) (by decide)).mono ?_); rintro e wk ⟨vk, rfl, hbk, hxk⟩; (obtain ⟨sk, Ak, nk, ck, rfl⟩ := hbk.shape))
      | (go_at_call 31; (with_reducible refine (RNeg_b _ _ _ _ (NumB.ext (by assumption) (by repeat (first | (with_reducible exact Ext.refl _) | (with_reducible apply Ext.drew) | (with_reducible apply Ext.drewN) | (with_reducible refine Ext.trans ?_ (by assumption)))))).mono ?_); rintro e wk ⟨vk, rfl, hbk, hxk⟩; (obtain ⟨sk, Ak, nk, ck, rfl⟩ := hbk.shape))
      | (go_at_call 33; (with_reducible refine (RCmp_b _ _ _ _ _ _ _ (NumB.ext (by assumption) (by repeat (first | (with_reducible exact Ext.refl _) | (with_reducible apply Ext.drew) | (with_reducible apply Ext.drewN) | (with_reducible refine Ext.trans ?_ (by assumption))))) (NumB.ext (by assumption) (by repeat (first | (with_reducible exact Ext.refl _) | (with_reducible apply Ext.drew) | (with_reducible apply Ext.drewN) | (with_reducible refine Ext.trans ?_ (by assumption))))) (by decide)).mono ?_); rintro e wk ⟨rfl, hxk⟩)
    )
  all_goals go_wp2_with fail
  all_goals go_ret
  all_goals exact ⟨rfl, hEf.trans (show Later T _ by first | assumption | (apply Later.drew; assumption) | (apply Later.drewN; assumption))⟩
end Go.Proofs.YtnojllmidpdbcaaDoor.Ten
