/- Walk: the law RationalMakes. -/
import Derived.Test.YteohdiaegnfbaaaDoorF3
import Derived.Test.YteohdiaegnfbaaaDoorT10
set_option linter.unusedVariables false
set_option linter.unusedSimpArgs false
namespace Go.Proofs.YteohdiaegnfbaaaDoor.Ten
open Go.RowKit Go.Proofs.YteohdiaegnfbaaaDoor.Big Go.Proofs.YteohdiaegnfbaaaDoor.Rt
open Go.Lib (itoa)

theorem RatNum_n (x : Value) (q : Rat) (k : Nat) (w : World) (N : Int) (hN : N = q.num) (hx : RatB w x q k) : Calls Tryd.prog 17 #[x] w (BigBPost w N k) := by subst hN; exact RatNum_b x q k w hx
theorem RatDen_n (x : Value) (q : Rat) (k : Nat) (w : World) (D : Int) (hD : D = (q.den : Int)) (hx : RatB w x q k) : Calls Tryd.prog 20 #[x] w (BigBPost w D k) := by subst hD; exact RatDen_b x q k w hx
theorem FText_n (x : Value) (q : Rat) (L : Nat) (w : World) (S : ByteArray) (hS : S = ⟨(ratText q).toArray⟩) (hx : FracV w x q) (bn : BT L q.num) (bd : BT L (q.den : Int)) (hL0 : 0 < L) (hL : L ≤ 10000000000) : Calls Tryd.prog 31 #[x] w (fun e w' => e = .returned (.string S) ∧ Ext w w') := by
  subst hS; exact FText_any x q L w hx bn bd hL0 hL
theorem BT_red {L : Nat} {n d : Int} (hn : BT L n) (hd : BT L d) (h : d ≠ 0) : BT L (Rat.divInt n d).num ∧ BT L ((Rat.divInt n d).den : Int) := by
  have key : ∀ n d : Int, BT L n → BT L d → 0 < d → BT L (Rat.divInt n d).num ∧ BT L ((Rat.divInt n d).den : Int) := by
    intro n d hn hd h
    obtain ⟨a, b⟩ := red_pos (n := n) h
    exact ⟨by rw [a]; exact BT_tdiv _ hn, by rw [b]; exact BT_tdiv _ hd⟩
  rcases Int.lt_or_lt_of_ne h with h | h
  · rw [← Rat.neg_divInt_neg]; exact key _ _ (BT_neg hn) (BT_neg hd) (by omega)
  · exact key _ _ hn hd h
theorem parse_boundTK {s : ByteArray} {k : Nat} (h1 : s.size ≤ k) (h2 : isDec s.data.toList = true) : BT k (parseZ s.data.toList) := by
  have h3 : digs (rest s.data.toList) = true := by
    unfold isDec at h2
    simp only [Bool.and_eq_true] at h2
    exact h2.1.2
  unfold BT parseZ
  rw [sgn_natAbs]
  have h4 := valD_lt h3
  have h6 := rest_len s.data.toList
  have h7 : s.data.toList.length = s.size := rfl
  exact Nat.lt_of_lt_of_le h4 (Nat.pow_le_pow_right (by omega) (by omega))
theorem makes_facts {n d : Int} (hd : d ≠ 0) : (cmpZ ((Rat.divInt n d).num * d) (((Rat.divInt n d).den : Int) * n) != 0) = false ∧ Nat.gcd (Rat.divInt n d).num.natAbs (((Rat.divInt n d).den : Int)).natAbs = 1 ∧ ((((Rat.divInt n d).den : Int)).sign != 1) = false := by
  refine ⟨?_, ?_, ?_⟩
  · have h : (Rat.divInt n d).num * d = ((Rat.divInt n d).den : Int) * n := by
      have h1 := Rat.num_divInt_den (Rat.divInt n d)
      have h2 := (Rat.divInt_eq_divInt_iff (show ((Rat.divInt n d).den : Int) ≠ 0 by have := (Rat.divInt n d).den_pos; omega) hd).1 h1
      rw [h2, Int.mul_comm]
    rw [h, cmpZ_self]; rfl
  · rw [Int.natAbs_natCast]; exact (Rat.divInt n d).reduced
  · rw [Int.sign_eq_one_of_pos (by have := (Rat.divInt n d).den_pos; omega)]; rfl

set_option maxRecDepth 100000 in
set_option maxHeartbeats 16000000 in
theorem makes_any (s t : ByteArray) (n d : Int) (w : World) (n0 : -9223372036854775808 ≤ n) (n1 : n ≤ 9223372036854775807) (d0 : -9223372036854775808 ≤ d) (d1 : d ≤ 9223372036854775807) (htab : TabOK w) (hmx : MxOK w) :
    Calls Tryd.prog 5 #[.string s, .string t, .int .i64 n, .int .i64 d] w (fun e w' => e = .returned (.bool true) ∧ Ext w w') := by
  go_enter Tryd.func5, Tryd.ntmps5
  go_wp2_with fail
  refine (RatAwake_any _ htab hmx).mono ?_
  rintro e w1 ⟨rfl, hE⟩
  go_wp2_with fail
  refine (Of_b n _ n0 n1).mono ?_
  rintro e w2 ⟨v2, rfl, h2, hx2⟩
  obtain ⟨p2, A2, n2, c2, rfl⟩ := h2.1.shape
  go_wp2_with fail
  refine (Of_b d _ d0 d1).mono ?_
  rintro e w3 ⟨v3, rfl, h3, hx3⟩
  obtain ⟨p3, A3, n3, c3, rfl⟩ := h3.1.shape
  go_upto_region 4 with fail
  obtain ⟨B9, B10, hx4⟩ := boxes2 w3 27 #[.bool p2, .slice A2 n2 c2] #[.bool p3, .slice A3 n3 c3]
  have hN := (h2.ext hx3).ext hx4
  have hDd := h3.ext hx4
  have hE := ((hE.trans hx2).trans hx3).trans hx4
  generalize ((w3.alloc (.cells #[.bool p2, .slice A2 n2 c2] 27)).alloc (.cells #[.bool p3, .slice A3 n3 c3] 27)) = W4 at *
  clear h2 h3 hx2 hx3 hx4
  by_cases hd0 : d = 0
  case pos =>
    subst hd0
    go_wp2_with fail
    refine (Frac_zero n 0 _ n0 n1 rfl).mono ?_
    rintro e w5 ⟨rfl, hx5⟩
    unfold zeroRat
    go_upto_region 5 with fail
    have hy5 : Ext w5 (w5.alloc (.cells #[.bool false, .slice none 0 0, .bool false, .slice none 0 0] 29)) := (Ext.refl w5).alloc _
    have B11 := Box.new w5 29 #[.bool false, .slice none 0 0, .bool false, .slice none 0 0]
    have hxy := hx5.trans hy5
    have hN := hN.ext hxy
    have hDd := hDd.ext hxy
    have B9 := B9.ext hxy
    have B10 := B10.ext hxy
    have hE := hE.trans hxy
    generalize (w5.alloc (.cells #[.bool false, .slice none 0 0, .bool false, .slice none 0 0] 29)) = W5 at *
    clear hx5 hy5 hxy
    have q0 := B9.c0
    have q1 := B9.c1
    have r0 := B10.c0
    have r1 := B10.c1
    go_wp2_with fail
    refine (Make_zero _ _ n _ hN.1 hDd.1).mono ?_
    rintro e w6 ⟨rfl, hx6⟩
    unfold zeroRat
    go_upto_region 7 with fail
    have hy6 : Ext w6 (w6.alloc (.cells #[.bool false, .slice none 0 0, .bool false, .slice none 0 0] 29)) := (Ext.refl w6).alloc _
    have B13 := Box.new w6 29 #[.bool false, .slice none 0 0, .bool false, .slice none 0 0]
    have hxy := hx6.trans hy6
    have B11 := B11.ext hxy
    have hE := hE.trans hxy
    generalize (w6.alloc (.cells #[.bool false, .slice none 0 0, .bool false, .slice none 0 0] 29)) = W6 at *
    clear hx6 hy6 hxy q0 q1 r0 r1 B9 B10 hN hDd
    have hZ1 : RatB W6 (.agg #[.bool false, .slice none 0 0, .bool false, .slice none 0 0]) 0 1 := ⟨RatV.zero _, QB_zero (by decide)⟩
    have q0 := B11.c0
    have q1 := B11.c1
    have q2 := B11.c2
    have q3 := B11.c3
    go_wp2_with fail
    refine (RatSign_b _ _ _ _ hZ1).mono ?_
    rintro e w7 ⟨rfl, hx7⟩
    rw [show (Rat.num 0).sign = 0 from rfl]
    have C13 := B13.ext hx7
    have r0 := C13.c0
    have r1 := C13.c1
    have r2 := C13.c2
    have r3 := C13.c3
    go_wp2_with fail
    refine (RatSign_b _ _ _ _ (hZ1.ext hx7)).mono ?_
    rintro e w8 ⟨rfl, hx8⟩
    rw [show (Rat.num 0).sign = 0 from rfl]
    have hE := (hE.trans hx7).trans hx8
    clear q0 q1 q2 q3 r0 r1 r2 r3 hZ1 B11 B13 C13 hx7 hx8
    by_cases hs : s.size ≤ 100
    case neg =>
      have e1 : decide ((100 : Int) < s.size) = true := by simp; omega
      go_wp2_with fail
      go_ret
      exact ⟨rfl, hE⟩
    have e1 : decide ((100 : Int) < s.size) = false := by simp; omega
    by_cases ht : t.size ≤ 100
    case neg =>
      have e2 : decide ((100 : Int) < t.size) = true := by simp; omega
      go_wp2_with fail
      go_ret
      exact ⟨rfl, hE⟩
    have e2 : decide ((100 : Int) < t.size) = false := by simp; omega
    obtain ⟨da, hda⟩ : ∃ b, b = isDec s.data.toList := ⟨_, rfl⟩
    obtain ⟨db, hdb⟩ : ∃ b, b = isDec t.data.toList := ⟨_, rfl⟩
    have HDA := Lib.hid hda
    have HDB := Lib.hid hdb
    clear hda hdb
    go_wp2_with fail
    refine (Big.Parse_any s _ (by omega)).mono ?_
    rintro e x1 ⟨v1, P, rfl, hP, hPv, -, hx1⟩
    obtain ⟨es, hes⟩ : ∃ es : Int, es = (if isDec s.data.toList = true then 0 else 3) := ⟨_, rfl⟩
    rw [← hes]
    rw [← HDA.out] at hes hPv
    have hde : (es != 0) = !da := by rw [hes]; cases da <;> rfl
    have HPV := Lib.hid hPv
    clear hes hPv
    obtain ⟨p1, A1, n1, c1, rfl⟩ := hP.shape
    go_upto_region 14 with fail
    have hy1 : Ext x1 (x1.alloc (.cells #[.bool p1, .slice A1 n1 c1] 27)) := (Ext.refl x1).alloc _
    have B15 := Box.new x1 27 #[.bool p1, .slice A1 n1 c1]
    have hP := hP.ext hy1
    have hE := (hE.trans hx1).trans hy1
    generalize (x1.alloc (.cells #[.bool p1, .slice A1 n1 c1] 27)) = Y1 at *
    clear hx1 hy1
    go_wp2_with fail
    refine (Big.Parse_any t _ (by omega)).mono ?_
    rintro e x2 ⟨v2, Q, rfl, hQ, hQv, -, hx2⟩
    obtain ⟨et, het⟩ : ∃ es : Int, es = (if isDec t.data.toList = true then 0 else 3) := ⟨_, rfl⟩
    rw [← het]
    rw [← HDB.out] at het hQv
    have hdf : (et != 0) = !db := by rw [het]; cases db <;> rfl
    have HQV := Lib.hid hQv
    clear het hQv
    obtain ⟨p2, A2, n2, c2, rfl⟩ := hQ.shape
    go_upto_region 15 with fail
    have hy2 : Ext x2 (x2.alloc (.cells #[.bool p2, .slice A2 n2 c2] 27)) := (Ext.refl x2).alloc _
    have B17 := Box.new x2 27 #[.bool p2, .slice A2 n2 c2]
    have hQ := hQ.ext hy2
    have hP := (hP.ext hx2).ext hy2
    have B15 := (B15.ext hx2).ext hy2
    have hE := (hE.trans hx2).trans hy2
    generalize (x2.alloc (.cells #[.bool p2, .slice A2 n2 c2] 27)) = Y2 at *
    clear hx2 hy2
    cases da
    case false =>
      go_wp2_with fail
      go_ret
      exact ⟨rfl, hE⟩
    cases db
    case false =>
      go_wp2_with fail
      go_ret
      exact ⟨rfl, hE⟩
    have hPs := HPV.out rfl
    have hQs := HQV.out rfl
    have bP : B 100 P := by rw [hPs]; exact parse_boundK hs HDA.out.symm
    have bQ : B 100 Q := by rw [hQs]; exact parse_boundK ht HDB.out.symm
    have tP : BT 100 P := by rw [hPs]; exact parse_boundTK hs HDA.out.symm
    have tQ : BT 100 Q := by rw [hQs]; exact parse_boundTK ht HDB.out.symm
    have HP := Lib.hid hPs
    have HQ := Lib.hid hQs
    clear hPs hQs HPV HQV
    go_wp2_with fail
    refine (Ten.Parse_any s _ (by omega)).mono ?_
    rintro e x3 ⟨v3, u, rfl, hu, huv, -, hx3⟩
    obtain rfl : u = P := (huv HDA.out.symm).trans HP.out.symm
    rw [← HDA.out]
    clear huv
    obtain ⟨s3, A3, n3, c3, rfl, -⟩ := hu.shape
    go_upto_region 18 with fail
    have hy3 : Ext x3 (x3.alloc (.cells #[.int .i64 s3, .slice A3 n3 c3] 39)) := (Ext.refl x3).alloc _
    have B19 := Box.new x3 39 #[.int .i64 s3, .slice A3 n3 c3]
    have hu := hu.ext hy3
    have hxy := hx3.trans hy3
    have hP := hP.ext hxy
    have hQ := hQ.ext hxy
    have B15 := B15.ext hxy
    have B17 := B17.ext hxy
    have hE := hE.trans hxy
    generalize (x3.alloc (.cells #[.int .i64 s3, .slice A3 n3 c3] 39)) = Y3 at *
    clear hx3 hy3 hxy
    go_wp2_with fail
    refine (Ten.Parse_any t _ (by omega)).mono ?_
    rintro e x4 ⟨v4, v, rfl, hv, hvv, -, hx4⟩
    obtain rfl : v = Q := (hvv HDB.out.symm).trans HQ.out.symm
    rw [← HDB.out]
    clear hvv
    obtain ⟨s4, A4, n4, c4, rfl, -⟩ := hv.shape
    go_upto_region 19 with fail
    have hy4 : Ext x4 (x4.alloc (.cells #[.int .i64 s4, .slice A4 n4 c4] 39)) := (Ext.refl x4).alloc _
    have B21 := Box.new x4 39 #[.int .i64 s4, .slice A4 n4 c4]
    have hv := hv.ext hy4
    have hxy := hx4.trans hy4
    have hu := hu.ext hxy
    have hP := hP.ext hxy
    have hQ := hQ.ext hxy
    have B15 := B15.ext hxy
    have B17 := B17.ext hxy
    have B19 := B19.ext hxy
    have hE := hE.trans hxy
    generalize (x4.alloc (.cells #[.int .i64 s4, .slice A4 n4 c4] 39)) = Y4 at *
    clear hx4 hy4 hxy
    have q0 := B15.c0
    have q1 := B15.c1
    have r0 := B17.c0
    have r1 := B17.c1
    by_cases hv0 : v = 0
    case pos =>
      subst hv0
      go_wp2_with fail
      refine (Make_zero _ _ u _ hP hQ).mono ?_
      rintro e x5 ⟨rfl, hx5⟩
      unfold zeroRat
      go_upto_region 20 with fail
      have hy5 : Ext x5 (x5.alloc (.cells #[.bool false, .slice none 0 0, .bool false, .slice none 0 0] 29)) := (Ext.refl x5).alloc _
      have B23 := Box.new x5 29 #[.bool false, .slice none 0 0, .bool false, .slice none 0 0]
      have hxy := hx5.trans hy5
      have hQ := hQ.ext hxy
      have B17 := B17.ext hxy
      have hE := hE.trans hxy
      generalize (x5.alloc (.cells #[.bool false, .slice none 0 0, .bool false, .slice none 0 0] 29)) = Y5 at *
      clear hx5 hy5 hxy q0 q1 r0 r1
      have hZB : RatB Y5 (.agg #[.bool false, .slice none 0 0, .bool false, .slice none 0 0]) 0 1 := ⟨RatV.zero _, QB_zero (by decide)⟩
      have r0 := B17.c0
      have r1 := B17.c1
      go_wp2_with fail
      refine (Sign_any _ 0 _ hQ).mono ?_
      rintro e x6 ⟨rfl, hx6⟩
      have B23 := B23.ext hx6
      have q0 := B23.c0
      have q1 := B23.c1
      have q2 := B23.c2
      have q3 := B23.c3
      go_wp2_with fail
      refine (RatSign_b _ _ _ _ (hZB.ext hx6)).mono ?_
      rintro e x7 ⟨rfl, hx7⟩
      rw [show (Rat.num 0).sign = 0 from rfl]
      go_wp2_with fail
      go_ret
      exact ⟨rfl, (hE.trans hx6).trans hx7⟩
    case neg =>
      have HV0 := Lib.hid hv0
      obtain ⟨sv, hsv⟩ : ∃ z, z = v.sign := ⟨_, rfl⟩
      have e5 : (sv == 0) = false := by rw [hsv]; exact sign_ne hv0
      have HSV := Lib.hid hsv
      clear hv0 hsv
      go_wp2_with fail
      refine (Make_b _ _ _ _ 100 100 _ ⟨hP, bP⟩ ⟨hQ, bQ⟩ (by decide) HV0.out).mono ?_
      rintro e x5 ⟨v5, rfl, h5, hx5⟩
      obtain ⟨p5, A5, n5, c5, p5', A5', n5', c5', rfl⟩ := h5.1.shape
      go_upto_region 20 with fail
      have hy5 : Ext x5 (x5.alloc (.cells #[.bool p5, .slice A5 n5 c5, .bool p5', .slice A5' n5' c5'] 29)) := (Ext.refl x5).alloc _
      have B23 := Box.new x5 29 #[.bool p5, .slice A5 n5 c5, .bool p5', .slice A5' n5' c5']
      have hR := h5.ext hy5
      have hxy := hx5.trans hy5
      have hQ := hQ.ext hxy
      have hu := hu.ext hxy
      have hv := hv.ext hxy
      have B17 := B17.ext hxy
      have B19 := B19.ext hxy
      have B21 := B21.ext hxy
      have hE := hE.trans hxy
      generalize (x5.alloc (.cells #[.bool p5, .slice A5 n5 c5, .bool p5', .slice A5' n5' c5'] 29)) = Y5 at *
      clear hx5 hy5 hxy q0 q1 r0 r1 h5 hP B15
      have r0 := B17.c0
      have r1 := B17.c1
      go_wp2_with fail
      refine (Sign_any _ v _ hQ).mono ?_
      rintro e x6 ⟨rfl, hx6⟩
      rw [← HSV.out]
      have hR := hR.ext hx6
      have hu := hu.ext hx6
      have hv := hv.ext hx6
      have B19 := B19.ext hx6
      have B21 := B21.ext hx6
      have B23 := B23.ext hx6
      have hE := hE.trans hx6
      have hTab := htab.ext hE
      obtain ⟨tn, td⟩ := BT_red tP tQ HV0.out
      obtain ⟨S, hS⟩ : ∃ S : ByteArray, S = ⟨(ratText (Rat.divInt u v)).toArray⟩ := ⟨_, rfl⟩
      have HS := Lib.hid hS
      clear hS hx6 r0 r1
      have k230 : ∀ w', Later x6 w' → w'.cell? ⟨_, 0, none⟩ = some _ := fun w' h => (B23.ext h).c0
      have k231 : ∀ w', Later x6 w' → w'.cell? ⟨_, 1, none⟩ = some _ := fun w' h => (B23.ext h).c1
      have k232 : ∀ w', Later x6 w' → w'.cell? ⟨_, 2, none⟩ = some _ := fun w' h => (B23.ext h).c2
      have k233 : ∀ w', Later x6 w' → w'.cell? ⟨_, 3, none⟩ = some _ := fun w' h => (B23.ext h).c3
      have k190 : ∀ w', Later x6 w' → w'.cell? ⟨x3.heap.size, 0, none⟩ = some (.int .i64 s3) := fun w' h => (B19.ext h).c0
      have k191 : ∀ w', Later x6 w' → w'.cell? ⟨x3.heap.size, 1, none⟩ = some (.slice A3 n3 c3) := fun w' h => (B19.ext h).c1
      have k210 : ∀ w', Later x6 w' → w'.cell? ⟨x4.heap.size, 0, none⟩ = some (.int .i64 s4) := fun w' h => (B21.ext h).c0
      have k211 : ∀ w', Later x6 w' → w'.cell? ⟨x4.heap.size, 1, none⟩ = some (.slice A4 n4 c4) := fun w' h => (B21.ext h).c1
      have hS0 := Later.refl x6
      go_upto_region 22 with fail
      go_region_held3 (fun w' => Later x6 w') ((repeat (first | assumption | apply Later.drew | apply Later.drewN | apply Later.alloc | (refine Later.step ?_ (by assumption))))) (first
        | (go_at_call 32; (with_reducible refine (FMake_any _ _ u v 100 _ (hu.ext (by repeat (first | (with_reducible exact Ext.refl _) | (with_reducible apply Ext.drew) | (with_reducible apply Ext.drewN) | (with_reducible refine Ext.trans ?_ (by assumption))))) (hv.ext (by repeat (first | (with_reducible exact Ext.refl _) | (with_reducible apply Ext.drew) | (with_reducible apply Ext.drewN) | (with_reducible refine Ext.trans ?_ (by assumption))))) tP tQ (by decide) HV0.out).mono ?_); rintro e wk ⟨vk, rfl, hfk, hxk⟩; (obtain ⟨sk, Ak, nk, ck, sk', Ak', nk', ck', rfl, hf1, hf2⟩ := hfk); have hfr : FracV wk _ _ := ⟨_, _, _, _, _, _, _, _, rfl, hf1, hf2⟩)
        | (go_at_call 31; (with_reducible refine (FText_n _ _ 100 _ S HS.out hfr tn td (by decide) (by decide)).mono ?_); rintro e wk ⟨rfl, hxk⟩)
          | (go_at_call 14; (with_reducible refine (RatText_n _ _ _ _ S HS.out (hR.ext (by repeat (first | (with_reducible exact Ext.refl _) | (with_reducible apply Ext.drew) | (with_reducible apply Ext.drewN) | (with_reducible refine Ext.trans ?_ (by assumption))))) (by decide) (TabOK.ext hTab (by repeat (first | (with_reducible exact Ext.refl _) | (with_reducible apply Ext.drew) | (with_reducible apply Ext.drewN) | (with_reducible refine Ext.trans ?_ (by assumption)))))).mono ?_); rintro e wk ⟨rfl, hxk⟩)
        )
      all_goals go_wp2_with fail
      all_goals go_ret
      all_goals exact ⟨rfl, hE.trans (show Later x6 _ by first | assumption | (apply Later.drew; assumption) | (apply Later.drewN; assumption))⟩
  case neg =>
    have HD := Lib.hid hd0
    have e0 : (d == 0) = false := by simpa using hd0
    clear hd0
    go_wp2_with fail
    refine (Frac_b n d _ n0 n1 d0 d1 HD.out).mono ?_
    rintro e w5 ⟨v5, rfl, h5, hx5⟩
    obtain ⟨p5, A5, n5, c5, p5', A5', n5', c5', rfl⟩ := h5.1.shape
    go_upto_region 5 with fail
    have hy5 : Ext w5 (w5.alloc (.cells #[.bool p5, .slice A5 n5 c5, .bool p5', .slice A5' n5' c5'] 29)) := (Ext.refl w5).alloc _
    have B11 := Box.new w5 29 #[.bool p5, .slice A5 n5 c5, .bool p5', .slice A5' n5' c5']
    have hF := h5.ext hy5
    have hxy := hx5.trans hy5
    have hN := hN.ext hxy
    have hDd := hDd.ext hxy
    have B9 := B9.ext hxy
    have B10 := B10.ext hxy
    have hE := hE.trans hxy
    generalize (w5.alloc (.cells #[.bool p5, .slice A5 n5 c5, .bool p5', .slice A5' n5' c5'] 29)) = W5 at *
    clear hx5 hy5 hxy h5
    have q0 := B9.c0
    have q1 := B9.c1
    have r0 := B10.c0
    have r1 := B10.c1
    go_wp2_with fail
    refine (Make_b _ _ _ _ _ _ _ hN hDd (by decide) HD.out).mono ?_
    rintro e w6 ⟨v6, rfl, h6, hx6⟩
    obtain ⟨p6, A6, n6, c6, p6', A6', n6', c6', rfl⟩ := h6.1.shape
    go_upto_region 6 with fail
    have hy6 : Ext w6 (w6.alloc (.cells #[.bool p6, .slice A6 n6 c6, .bool p6', .slice A6' n6' c6'] 29)) := (Ext.refl w6).alloc _
    have B13 := Box.new w6 29 #[.bool p6, .slice A6 n6 c6, .bool p6', .slice A6' n6' c6']
    have hG := h6.ext hy6
    have hxy := hx6.trans hy6
    have hN := hN.ext hxy
    have hDd := hDd.ext hxy
    have hF := hF.ext hxy
    have B9 := B9.ext hxy
    have B10 := B10.ext hxy
    have B11 := B11.ext hxy
    have hE := hE.trans hxy
    generalize (w6.alloc (.cells #[.bool p6, .slice A6 n6 c6, .bool p6', .slice A6' n6' c6'] 29)) = W6 at *
    clear hx6 hy6 hxy h6 q0 q1 r0 r1
    have hTab := htab.ext hE
    obtain ⟨m1, m2, m3⟩ := makes_facts (n := n) HD.out
    obtain ⟨X, hX⟩ : ∃ X, X = Rat.divInt n d := ⟨_, rfl⟩
    rw [← hX] at hF hG m1 m2 m3
    obtain ⟨NX, hNX⟩ : ∃ N : Int, N = X.num := ⟨_, rfl⟩
    obtain ⟨DX, hDX⟩ : ∃ N : Int, N = (X.den : Int) := ⟨_, rfl⟩
    rw [← hNX] at m1 m2
    rw [← hDX] at m1 m2 m3
    have HNX := Lib.hid hNX
    have HDX := Lib.hid hDX
    have m2' : (cmpZ ((Nat.gcd NX.natAbs DX.natAbs : Nat) : Int) 1 != 0) = false := by rw [m2]; rfl
    clear hX hNX hDX m2
    go_upto_region 9 with fail
    have k110 : ∀ w', Later W6 w' → w'.cell? ⟨_, 0, none⟩ = some _ := fun w' h => (B11.ext h).c0
    have k111 : ∀ w', Later W6 w' → w'.cell? ⟨_, 1, none⟩ = some _ := fun w' h => (B11.ext h).c1
    have k112 : ∀ w', Later W6 w' → w'.cell? ⟨_, 2, none⟩ = some _ := fun w' h => (B11.ext h).c2
    have k113 : ∀ w', Later W6 w' → w'.cell? ⟨_, 3, none⟩ = some _ := fun w' h => (B11.ext h).c3
    have k130 : ∀ w', Later W6 w' → w'.cell? ⟨_, 0, none⟩ = some _ := fun w' h => (B13.ext h).c0
    have k131 : ∀ w', Later W6 w' → w'.cell? ⟨_, 1, none⟩ = some _ := fun w' h => (B13.ext h).c1
    have k132 : ∀ w', Later W6 w' → w'.cell? ⟨_, 2, none⟩ = some _ := fun w' h => (B13.ext h).c2
    have k133 : ∀ w', Later W6 w' → w'.cell? ⟨_, 3, none⟩ = some _ := fun w' h => (B13.ext h).c3
    have k90 : ∀ w', Later W6 w' → w'.cell? ⟨w3.heap.size, 0, none⟩ = some (.bool p2) := fun w' h => (B9.ext h).c0
    have k91 : ∀ w', Later W6 w' → w'.cell? ⟨w3.heap.size, 1, none⟩ = some (.slice A2 n2 c2) := fun w' h => (B9.ext h).c1
    have k100 : ∀ w', Later W6 w' → w'.cell? ⟨w3.heap.size + 1, 0, none⟩ = some (.bool p3) := fun w' h => (B10.ext h).c0
    have k101 : ∀ w', Later W6 w' → w'.cell? ⟨w3.heap.size + 1, 1, none⟩ = some (.slice A3 n3 c3) := fun w' h => (B10.ext h).c1
    have hS0 := Later.refl W6
    go_cut [100] (fun v wx => v = .bool false ∧ Later W6 wx)
    case first => as_aux_lemma =>
      go_region_held3 (fun w' => Later W6 w') ((repeat (first | assumption | apply Later.drew | apply Later.drewN | apply Later.alloc | (refine Later.step ?_ (by assumption))))) (first
        | (go_at_call 17; (with_reducible refine (RatNum_n _ _ _ _ NX HNX.out (RatB.ext (by assumption) (by repeat (first | (with_reducible exact Ext.refl _) | (with_reducible apply Ext.drew) | (with_reducible apply Ext.drewN) | (with_reducible refine Ext.trans ?_ (by assumption)))))).mono ?_); rintro e wk ⟨vk, rfl, hbk, hxk⟩; (obtain ⟨pk, Ak, nk, ck, rfl⟩ := hbk.1.shape))
        | (go_at_call 20; (with_reducible refine (RatDen_n _ _ _ _ DX HDX.out (RatB.ext (by assumption) (by repeat (first | (with_reducible exact Ext.refl _) | (with_reducible apply Ext.drew) | (with_reducible apply Ext.drewN) | (with_reducible refine Ext.trans ?_ (by assumption)))))).mono ?_); rintro e wk ⟨vk, rfl, hbk, hxk⟩; (obtain ⟨pk, Ak, nk, ck, rfl⟩ := hbk.1.shape))
        | (go_at_call 28; (with_reducible refine (Sign_b _ _ _ _ (BigB.ext (by assumption) (by repeat (first | (with_reducible exact Ext.refl _) | (with_reducible apply Ext.drew) | (with_reducible apply Ext.drewN) | (with_reducible refine Ext.trans ?_ (by assumption)))))).mono ?_); rintro e wk ⟨rfl, hxk⟩)
          | (go_at_call 24; (with_reducible refine (RatSame_eq _ _ _ _ _ _ _ (RatB.ext (by assumption) (by repeat (first | (with_reducible exact Ext.refl _) | (with_reducible apply Ext.drew) | (with_reducible apply Ext.drewN) | (with_reducible refine Ext.trans ?_ (by assumption))))) (RatB.ext (by assumption) (by repeat (first | (with_reducible exact Ext.refl _) | (with_reducible apply Ext.drew) | (with_reducible apply Ext.drewN) | (with_reducible refine Ext.trans ?_ (by assumption))))) (by decide) (TabOK.ext hTab (by repeat (first | (with_reducible exact Ext.refl _) | (with_reducible apply Ext.drew) | (with_reducible apply Ext.drewN) | (with_reducible refine Ext.trans ?_ (by assumption))))) (by first | exact Rat.add_comm _ _ | exact Rat.mul_comm _ _ | exact Rat.add_assoc _ _ _ | exact Rat.mul_assoc _ _ _ | exact Rat.mul_add _ _ _ | exact Rat.sub_eq_add_neg _ _ | exact addz _ | exact mulo _ | assumption | exact rfl)).mono ?_); rintro e wk ⟨rfl, hxk⟩)
          | (go_at_call 27; (with_reducible refine (Gcd_b _ _ _ _ _ _ _ (BigB.ext (by assumption) (by repeat (first | (with_reducible exact Ext.refl _) | (with_reducible apply Ext.drew) | (with_reducible apply Ext.drewN) | (with_reducible refine Ext.trans ?_ (by assumption))))) (BigB.ext (by assumption) (by repeat (first | (with_reducible exact Ext.refl _) | (with_reducible apply Ext.drew) | (with_reducible apply Ext.drewN) | (with_reducible refine Ext.trans ?_ (by assumption))))) (by first | omega | decide)).mono ?_); rintro e wk ⟨vk, rfl, hbk, hxk⟩; (obtain ⟨pk, Ak, nk, ck, rfl⟩ := hbk.1.shape))
          | (go_at_call 21; (with_reducible refine (Of_b _ _ (by first | assumption | decide) (by first | assumption | decide)).mono ?_); rintro e wk ⟨vk, rfl, hbk, hxk⟩; (obtain ⟨pk, Ak, nk, ck, rfl⟩ := hbk.1.shape))
          | (go_at_call 20; (with_reducible refine (RatDen_b _ _ _ _ (RatB.ext (by assumption) (by repeat (first | (with_reducible exact Ext.refl _) | (with_reducible apply Ext.drew) | (with_reducible apply Ext.drewN) | (with_reducible refine Ext.trans ?_ (by assumption)))))).mono ?_); rintro e wk ⟨vk, rfl, hbk, hxk⟩; (obtain ⟨pk, Ak, nk, ck, rfl⟩ := hbk.1.shape))
          | (go_at_call 25; (with_reducible refine (Mul_b _ _ _ _ _ _ _ (BigB.ext (by assumption) (by repeat (first | (with_reducible exact Ext.refl _) | (with_reducible apply Ext.drew) | (with_reducible apply Ext.drewN) | (with_reducible refine Ext.trans ?_ (by assumption))))) (BigB.ext (by assumption) (by repeat (first | (with_reducible exact Ext.refl _) | (with_reducible apply Ext.drew) | (with_reducible apply Ext.drewN) | (with_reducible refine Ext.trans ?_ (by assumption))))) (by omega)).mono ?_); rintro e wk ⟨vk, rfl, hbk, hxk⟩; (obtain ⟨pk, Ak, nk, ck, rfl⟩ := hbk.1.shape))
          | (go_at_call 68; (with_reducible refine (Add_b _ _ _ _ _ _ _ (BigB.ext (by assumption) (by repeat (first | (with_reducible exact Ext.refl _) | (with_reducible apply Ext.drew) | (with_reducible apply Ext.drewN) | (with_reducible refine Ext.trans ?_ (by assumption))))) (BigB.ext (by assumption) (by repeat (first | (with_reducible exact Ext.refl _) | (with_reducible apply Ext.drew) | (with_reducible apply Ext.drewN) | (with_reducible refine Ext.trans ?_ (by assumption))))) (by omega)).mono ?_); rintro e wk ⟨vk, rfl, hbk, hxk⟩; (obtain ⟨pk, Ak, nk, ck, rfl⟩ := hbk.1.shape))
          | (go_at_call 26; (with_reducible refine (Cmp_b _ _ _ _ _ _ _ (BigB.ext (by assumption) (by repeat (first | (with_reducible exact Ext.refl _) | (with_reducible apply Ext.drew) | (with_reducible apply Ext.drewN) | (with_reducible refine Ext.trans ?_ (by assumption))))) (BigB.ext (by assumption) (by repeat (first | (with_reducible exact Ext.refl _) | (with_reducible apply Ext.drew) | (with_reducible apply Ext.drewN) | (with_reducible refine Ext.trans ?_ (by assumption)))))).mono ?_); rintro e wk ⟨rfl, hxk⟩)
          | (go_at_call 37; (with_reducible refine (Neg_b _ _ _ _ (BigB.ext (by assumption) (by repeat (first | (with_reducible exact Ext.refl _) | (with_reducible apply Ext.drew) | (with_reducible apply Ext.drewN) | (with_reducible refine Ext.trans ?_ (by assumption)))))).mono ?_); rintro e wk ⟨vk, rfl, hbk, hxk⟩; (obtain ⟨pk, Ak, nk, ck, rfl⟩ := hbk.1.shape))
        )
      all_goals (go_wp2_with fail; go_meet)
      all_goals exact ⟨rfl, by assumption⟩
    case rest =>
      obtain ⟨rfl, hL⟩ := hcut
      have hE := hE.trans (show Ext W6 wc from hL)
      clear hL k110 k111 k112 k113 k130 k131 k132 k133 k90 k91 k100 k101 hS0 m1 m2' m3 hTab hF hG hN hDd B9 B10 B11 B13
      by_cases hs : s.size ≤ 100
      case neg =>
        have e1 : decide ((100 : Int) < s.size) = true := by simp; omega
        go_wp2_with fail
        go_ret
        exact ⟨rfl, hE⟩
      have e1 : decide ((100 : Int) < s.size) = false := by simp; omega
      by_cases ht : t.size ≤ 100
      case neg =>
        have e2 : decide ((100 : Int) < t.size) = true := by simp; omega
        go_wp2_with fail
        go_ret
        exact ⟨rfl, hE⟩
      have e2 : decide ((100 : Int) < t.size) = false := by simp; omega
      obtain ⟨da, hda⟩ : ∃ b, b = isDec s.data.toList := ⟨_, rfl⟩
      obtain ⟨db, hdb⟩ : ∃ b, b = isDec t.data.toList := ⟨_, rfl⟩
      have HDA := Lib.hid hda
      have HDB := Lib.hid hdb
      clear hda hdb
      go_wp2_with fail
      refine (Big.Parse_any s _ (by omega)).mono ?_
      rintro e x1 ⟨v1, P, rfl, hP, hPv, -, hx1⟩
      obtain ⟨es, hes⟩ : ∃ es : Int, es = (if isDec s.data.toList = true then 0 else 3) := ⟨_, rfl⟩
      rw [← hes]
      rw [← HDA.out] at hes hPv
      have hde : (es != 0) = !da := by rw [hes]; cases da <;> rfl
      have HPV := Lib.hid hPv
      clear hes hPv
      obtain ⟨p1, A1, n1, c1, rfl⟩ := hP.shape
      go_upto_region 14 with fail
      have hy1 : Ext x1 (x1.alloc (.cells #[.bool p1, .slice A1 n1 c1] 27)) := (Ext.refl x1).alloc _
      have B15 := Box.new x1 27 #[.bool p1, .slice A1 n1 c1]
      have hP := hP.ext hy1
      have hE := (hE.trans hx1).trans hy1
      generalize (x1.alloc (.cells #[.bool p1, .slice A1 n1 c1] 27)) = Y1 at *
      clear hx1 hy1
      go_wp2_with fail
      refine (Big.Parse_any t _ (by omega)).mono ?_
      rintro e x2 ⟨v2, Q, rfl, hQ, hQv, -, hx2⟩
      obtain ⟨et, het⟩ : ∃ es : Int, es = (if isDec t.data.toList = true then 0 else 3) := ⟨_, rfl⟩
      rw [← het]
      rw [← HDB.out] at het hQv
      have hdf : (et != 0) = !db := by rw [het]; cases db <;> rfl
      have HQV := Lib.hid hQv
      clear het hQv
      obtain ⟨p2, A2, n2, c2, rfl⟩ := hQ.shape
      go_upto_region 15 with fail
      have hy2 : Ext x2 (x2.alloc (.cells #[.bool p2, .slice A2 n2 c2] 27)) := (Ext.refl x2).alloc _
      have B17 := Box.new x2 27 #[.bool p2, .slice A2 n2 c2]
      have hQ := hQ.ext hy2
      have hP := (hP.ext hx2).ext hy2
      have B15 := (B15.ext hx2).ext hy2
      have hE := (hE.trans hx2).trans hy2
      generalize (x2.alloc (.cells #[.bool p2, .slice A2 n2 c2] 27)) = Y2 at *
      clear hx2 hy2
      cases da
      case false =>
        go_wp2_with fail
        go_ret
        exact ⟨rfl, hE⟩
      cases db
      case false =>
        go_wp2_with fail
        go_ret
        exact ⟨rfl, hE⟩
      have hPs := HPV.out rfl
      have hQs := HQV.out rfl
      have bP : B 100 P := by rw [hPs]; exact parse_boundK hs HDA.out.symm
      have bQ : B 100 Q := by rw [hQs]; exact parse_boundK ht HDB.out.symm
      have tP : BT 100 P := by rw [hPs]; exact parse_boundTK hs HDA.out.symm
      have tQ : BT 100 Q := by rw [hQs]; exact parse_boundTK ht HDB.out.symm
      have HP := Lib.hid hPs
      have HQ := Lib.hid hQs
      clear hPs hQs HPV HQV
      go_wp2_with fail
      refine (Ten.Parse_any s _ (by omega)).mono ?_
      rintro e x3 ⟨v3, u, rfl, hu, huv, -, hx3⟩
      obtain rfl : u = P := (huv HDA.out.symm).trans HP.out.symm
      rw [← HDA.out]
      clear huv
      obtain ⟨s3, A3, n3, c3, rfl, -⟩ := hu.shape
      go_upto_region 18 with fail
      have hy3 : Ext x3 (x3.alloc (.cells #[.int .i64 s3, .slice A3 n3 c3] 39)) := (Ext.refl x3).alloc _
      have B19 := Box.new x3 39 #[.int .i64 s3, .slice A3 n3 c3]
      have hu := hu.ext hy3
      have hxy := hx3.trans hy3
      have hP := hP.ext hxy
      have hQ := hQ.ext hxy
      have B15 := B15.ext hxy
      have B17 := B17.ext hxy
      have hE := hE.trans hxy
      generalize (x3.alloc (.cells #[.int .i64 s3, .slice A3 n3 c3] 39)) = Y3 at *
      clear hx3 hy3 hxy
      go_wp2_with fail
      refine (Ten.Parse_any t _ (by omega)).mono ?_
      rintro e x4 ⟨v4, v, rfl, hv, hvv, -, hx4⟩
      obtain rfl : v = Q := (hvv HDB.out.symm).trans HQ.out.symm
      rw [← HDB.out]
      clear hvv
      obtain ⟨s4, A4, n4, c4, rfl, -⟩ := hv.shape
      go_upto_region 19 with fail
      have hy4 : Ext x4 (x4.alloc (.cells #[.int .i64 s4, .slice A4 n4 c4] 39)) := (Ext.refl x4).alloc _
      have B21 := Box.new x4 39 #[.int .i64 s4, .slice A4 n4 c4]
      have hv := hv.ext hy4
      have hxy := hx4.trans hy4
      have hu := hu.ext hxy
      have hP := hP.ext hxy
      have hQ := hQ.ext hxy
      have B15 := B15.ext hxy
      have B17 := B17.ext hxy
      have B19 := B19.ext hxy
      have hE := hE.trans hxy
      generalize (x4.alloc (.cells #[.int .i64 s4, .slice A4 n4 c4] 39)) = Y4 at *
      clear hx4 hy4 hxy
      have q0 := B15.c0
      have q1 := B15.c1
      have r0 := B17.c0
      have r1 := B17.c1
      by_cases hv0 : v = 0
      case pos =>
        subst hv0
        go_wp2_with fail
        refine (Make_zero _ _ u _ hP hQ).mono ?_
        rintro e x5 ⟨rfl, hx5⟩
        unfold zeroRat
        go_upto_region 20 with fail
        have hy5 : Ext x5 (x5.alloc (.cells #[.bool false, .slice none 0 0, .bool false, .slice none 0 0] 29)) := (Ext.refl x5).alloc _
        have B23 := Box.new x5 29 #[.bool false, .slice none 0 0, .bool false, .slice none 0 0]
        have hxy := hx5.trans hy5
        have hQ := hQ.ext hxy
        have B17 := B17.ext hxy
        have hE := hE.trans hxy
        generalize (x5.alloc (.cells #[.bool false, .slice none 0 0, .bool false, .slice none 0 0] 29)) = Y5 at *
        clear hx5 hy5 hxy q0 q1 r0 r1
        have hZB : RatB Y5 (.agg #[.bool false, .slice none 0 0, .bool false, .slice none 0 0]) 0 1 := ⟨RatV.zero _, QB_zero (by decide)⟩
        have r0 := B17.c0
        have r1 := B17.c1
        go_wp2_with fail
        refine (Sign_any _ 0 _ hQ).mono ?_
        rintro e x6 ⟨rfl, hx6⟩
        have B23 := B23.ext hx6
        have q0 := B23.c0
        have q1 := B23.c1
        have q2 := B23.c2
        have q3 := B23.c3
        go_wp2_with fail
        refine (RatSign_b _ _ _ _ (hZB.ext hx6)).mono ?_
        rintro e x7 ⟨rfl, hx7⟩
        rw [show (Rat.num 0).sign = 0 from rfl]
        go_wp2_with fail
        go_ret
        exact ⟨rfl, (hE.trans hx6).trans hx7⟩
      case neg =>
        have HV0 := Lib.hid hv0
        obtain ⟨sv, hsv⟩ : ∃ z, z = v.sign := ⟨_, rfl⟩
        have e5 : (sv == 0) = false := by rw [hsv]; exact sign_ne hv0
        have HSV := Lib.hid hsv
        clear hv0 hsv
        go_wp2_with fail
        refine (Make_b _ _ _ _ 100 100 _ ⟨hP, bP⟩ ⟨hQ, bQ⟩ (by decide) HV0.out).mono ?_
        rintro e x5 ⟨v5, rfl, h5, hx5⟩
        obtain ⟨p5, A5, n5, c5, p5', A5', n5', c5', rfl⟩ := h5.1.shape
        go_upto_region 20 with fail
        have hy5 : Ext x5 (x5.alloc (.cells #[.bool p5, .slice A5 n5 c5, .bool p5', .slice A5' n5' c5'] 29)) := (Ext.refl x5).alloc _
        have B23 := Box.new x5 29 #[.bool p5, .slice A5 n5 c5, .bool p5', .slice A5' n5' c5']
        have hR := h5.ext hy5
        have hxy := hx5.trans hy5
        have hQ := hQ.ext hxy
        have hu := hu.ext hxy
        have hv := hv.ext hxy
        have B17 := B17.ext hxy
        have B19 := B19.ext hxy
        have B21 := B21.ext hxy
        have hE := hE.trans hxy
        generalize (x5.alloc (.cells #[.bool p5, .slice A5 n5 c5, .bool p5', .slice A5' n5' c5'] 29)) = Y5 at *
        clear hx5 hy5 hxy q0 q1 r0 r1 h5 hP B15
        have r0 := B17.c0
        have r1 := B17.c1
        go_wp2_with fail
        refine (Sign_any _ v _ hQ).mono ?_
        rintro e x6 ⟨rfl, hx6⟩
        rw [← HSV.out]
        have hR := hR.ext hx6
        have hu := hu.ext hx6
        have hv := hv.ext hx6
        have B19 := B19.ext hx6
        have B21 := B21.ext hx6
        have B23 := B23.ext hx6
        have hE := hE.trans hx6
        have hTab := htab.ext hE
        obtain ⟨tn, td⟩ := BT_red tP tQ HV0.out
        obtain ⟨S, hS⟩ : ∃ S : ByteArray, S = ⟨(ratText (Rat.divInt u v)).toArray⟩ := ⟨_, rfl⟩
        have HS := Lib.hid hS
        clear hS hx6 r0 r1
        have k230 : ∀ w', Later x6 w' → w'.cell? ⟨_, 0, none⟩ = some _ := fun w' h => (B23.ext h).c0
        have k231 : ∀ w', Later x6 w' → w'.cell? ⟨_, 1, none⟩ = some _ := fun w' h => (B23.ext h).c1
        have k232 : ∀ w', Later x6 w' → w'.cell? ⟨_, 2, none⟩ = some _ := fun w' h => (B23.ext h).c2
        have k233 : ∀ w', Later x6 w' → w'.cell? ⟨_, 3, none⟩ = some _ := fun w' h => (B23.ext h).c3
        have k190 : ∀ w', Later x6 w' → w'.cell? ⟨x3.heap.size, 0, none⟩ = some (.int .i64 s3) := fun w' h => (B19.ext h).c0
        have k191 : ∀ w', Later x6 w' → w'.cell? ⟨x3.heap.size, 1, none⟩ = some (.slice A3 n3 c3) := fun w' h => (B19.ext h).c1
        have k210 : ∀ w', Later x6 w' → w'.cell? ⟨x4.heap.size, 0, none⟩ = some (.int .i64 s4) := fun w' h => (B21.ext h).c0
        have k211 : ∀ w', Later x6 w' → w'.cell? ⟨x4.heap.size, 1, none⟩ = some (.slice A4 n4 c4) := fun w' h => (B21.ext h).c1
        have hS0 := Later.refl x6
        go_upto_region 22 with fail
        go_region_held3 (fun w' => Later x6 w') ((repeat (first | assumption | apply Later.drew | apply Later.drewN | apply Later.alloc | (refine Later.step ?_ (by assumption))))) (first
          | (go_at_call 32; (with_reducible refine (FMake_any _ _ u v 100 _ (hu.ext (by repeat (first | (with_reducible exact Ext.refl _) | (with_reducible apply Ext.drew) | (with_reducible apply Ext.drewN) | (with_reducible refine Ext.trans ?_ (by assumption))))) (hv.ext (by repeat (first | (with_reducible exact Ext.refl _) | (with_reducible apply Ext.drew) | (with_reducible apply Ext.drewN) | (with_reducible refine Ext.trans ?_ (by assumption))))) tP tQ (by decide) HV0.out).mono ?_); rintro e wk ⟨vk, rfl, hfk, hxk⟩; (obtain ⟨sk, Ak, nk, ck, sk', Ak', nk', ck', rfl, hf1, hf2⟩ := hfk); have hfr : FracV wk _ _ := ⟨_, _, _, _, _, _, _, _, rfl, hf1, hf2⟩)
          | (go_at_call 31; (with_reducible refine (FText_n _ _ 100 _ S HS.out hfr tn td (by decide) (by decide)).mono ?_); rintro e wk ⟨rfl, hxk⟩)
            | (go_at_call 14; (with_reducible refine (RatText_n _ _ _ _ S HS.out (hR.ext (by repeat (first | (with_reducible exact Ext.refl _) | (with_reducible apply Ext.drew) | (with_reducible apply Ext.drewN) | (with_reducible refine Ext.trans ?_ (by assumption))))) (by decide) (TabOK.ext hTab (by repeat (first | (with_reducible exact Ext.refl _) | (with_reducible apply Ext.drew) | (with_reducible apply Ext.drewN) | (with_reducible refine Ext.trans ?_ (by assumption)))))).mono ?_); rintro e wk ⟨rfl, hxk⟩)
          )
        all_goals go_wp2_with fail
        all_goals go_ret
        all_goals exact ⟨rfl, hE.trans (show Later x6 _ by first | assumption | (apply Later.drew; assumption) | (apply Later.drewN; assumption))⟩
end Go.Proofs.YteohdiaegnfbaaaDoor.Ten
