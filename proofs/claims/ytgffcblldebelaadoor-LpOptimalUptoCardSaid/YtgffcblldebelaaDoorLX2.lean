/- The law LpOptimal, walked. -/
import Derived.Test.YtgffcblldebelaaDoorLW0
import Derived.Test.YtgffcblldebelaaDoorLV9
set_option linter.unusedVariables false
set_option linter.unusedSimpArgs false
namespace Go.Proofs.YtgffcblldebelaaDoor.Lp
open Go.RowKit Go.Proofs.YtgffcblldebelaaDoor.Big Go.Proofs.YtgffcblldebelaaDoor.Rt

set_option maxHeartbeats 8000000 in
set_option maxRecDepth 100000 in
theorem optimal_any (v : Value) (ip : IP) (w : World) (h : IPV w v ip) (hok : ip.ok) (htab : TabOK w) : Calls Tryd.prog 12 #[v] w (ValPost w (.bool true)) := by
  have h0 := h
  obtain ⟨Ao, co, Ar, cr, rfl, -, -, -, -⟩ := h0
  obtain ⟨n0, hn0⟩ : ∃ n, n = ip.obj.length := ⟨_, rfl⟩
  obtain ⟨m0, hm0⟩ : ∃ n, n = ip.rows.length := ⟨_, rfl⟩
  obtain ⟨d0, hd0⟩ : ∃ n, n = ip.den := ⟨_, rfl⟩
  have HN0 := Lib.hid hn0
  have HM0 := Lib.hid hm0
  rw [← hn0, ← hm0, ← hd0] at h ⊢
  have HOK := Lib.hid hok
  clear hn0 hm0 hd0 hok
  have B := Box.new w 25 #[.slice Ao n0 co, .slice Ar m0 cr, .int .u8 (d0 : Int)]
  have hE0 : Ext w (w.alloc (.cells #[.slice Ao n0 co, .slice Ar m0 cr, .int .u8 (d0 : Int)] 25)) := (Ext.refl w).alloc _
  go_enter Tryd.func12, Tryd.ntmps12
  go_upto_region 1 with fail
  generalize (w.alloc (.cells #[.slice Ao n0 co, .slice Ar m0 cr, .int .u8 (d0 : Int)] 25)) = V at *
  obtain ⟨ab, hab⟩ : ∃ x, x = w.heap.size := ⟨_, rfl⟩
  rw [← hab] at B ⊢
  clear hab
  go_wp2_with fail
  refine (awake_b _ (htab.ext hE0)).mono ?_
  rintro e w1 ⟨rfl, hx1⟩
  have hE1 := hE0.trans hx1
  have B := B.ext hx1
  have c0 := B.c0
  have c1 := B.c1
  have c2 := B.c2
  clear hE0 hx1
  go_wp2_with fail
  refine (fits_b _ ip _ (h.ext hE1)).mono ?_
  rintro e w2 ⟨rfl, hx2⟩
  have hE2 := hE1.trans hx2
  have B := B.ext hx2
  clear c0 c1 c2 hE1 hx2
  obtain ⟨F, hF⟩ : ∃ F, F = fitB ip := ⟨_, rfl⟩
  rw [← hF]
  have HFI := Lib.hid hF
  clear hF
  cases F with
  | false =>
    go_wp2_with fail
    refine (awake_b _ (htab.ext hE2)).mono ?_
    rintro e w3 ⟨rfl, hx3⟩
    go_wp2_with fail
    go_ret
    exact ⟨rfl, hE2.trans hx3⟩
  | true =>
  have c0 := B.c0
  have c1 := B.c1
  have c2 := B.c2
  go_wp2_with fail
  refine (Make_b _ ip _ (h.ext hE2) HOK.out).mono ?_
  rintro e w3 ⟨v3, a, rfl, hM, hx3⟩
  have hP := hM.prob
  have hv3 := hM.val
  subst hv3
  have hE3 := hE2.trans hx3
  have hfit := fitB_iff.1 HFI.out.symm
  have HPN : Hid (ip.pl.toP.n ≤ 8) := Lib.hid (by rw [IP.pn]; exact hfit.1)
  have HPM : Hid (ip.pl.toP.m ≤ 8) := Lib.hid (by rw [IP.pm]; exact hfit.2)
  have HBD : Hid (validB ip.pl.toP = true → Bnd ip.pl.toP 16000000) := Lib.hid (fun hv => IP.bnd HOK.out HPN.out (by have := HPM.out; omega) hv)
  have B := B.ext hx3
  clear hE2 hx3 c0 c1 c2 hfit
  obtain ⟨p, hp⟩ : ∃ p, p = ip.pl.toP := ⟨_, rfl⟩
  have HPP := Lib.hid hp
  have HCF : Hid ((∀ i, i < p.m → ∀ j, j < p.n → QB 2 (p.coef i j)) ∧ (∀ i, i < p.m → QB 2 (p.right i)) ∧ (∀ j, j < p.n → QB 2 (p.obj j))) := Lib.hid (by rw [hp]; exact ⟨fun i hi j _ => IP.coef_b HOK.out hi j, fun i hi => IP.right_b HOK.out hi, fun j _ => IP.obj_b HOK.out j⟩)
  rw [← hp] at hP hM HPN HPM HBD ⊢
  clear hp
  go_upto_region 4 with fail
  have PB := Box.new w3 31 #[.slice a.Ao p.n a.co, .slice a.Ar p.m a.cr]
  have hx4 : Ext w3 (w3.alloc (.cells #[.slice a.Ao p.n a.co, .slice a.Ar p.m a.cr] 31)) := (Ext.refl w3).alloc _
  generalize (w3.alloc (.cells #[.slice a.Ao p.n a.co, .slice a.Ar p.m a.cr] 31)) = U at *
  obtain ⟨qb, hqb⟩ : ∃ x, x = w3.heap.size := ⟨_, rfl⟩
  rw [← hqb] at PB ⊢
  clear hqb
  have hP := hP.ext hx4
  have hM := hM.ext hx4
  have B := B.ext hx4
  have hE4 := hE3.trans hx4
  have c0 := PB.c0
  have c1 := PB.c1
  clear hE3 hx4
  go_wp2_with fail
  refine (Solve_l _ p 16000000 _ hP HBD.out).mono ?_
  rintro e w5 ⟨q, A, n, c, q', A', n', c', Ax, nx, cx, Ay, ny, cy, k, z, xs, ys, rfl, hz, hX, hY, hbx, hby, hres, hx5⟩
  have HRES := Lib.hid hres
  have HBX := Lib.hid hbx
  have HBY := Lib.hid hby
  have hE5 := hE4.trans hx5
  have hP5 := hP.ext hx5
  have hM5 := hM.ext hx5
  have PB5 := PB.ext hx5
  have B5 := B.ext hx5
  clear hbx hby hres hE4 hx5 hP PB c0 c1 hM B
  go_upto_region 5 with fail
  have SB := Box.new w5 39 #[.bool q, .slice A n c, .bool q', .slice A' n' c', .slice Ax nx cx, .slice Ay ny cy]
  have hx6 : Ext w5 (w5.alloc (.cells #[.bool q, .slice A n c, .bool q', .slice A' n' c', .slice Ax nx cx, .slice Ay ny cy] 39)) := (Ext.refl w5).alloc _
  generalize (w5.alloc (.cells #[.bool q, .slice A n c, .bool q', .slice A' n' c', .slice Ax nx cx, .slice Ay ny cy] 39)) = U6 at *
  obtain ⟨sb, hsb⟩ : ∃ x, x = w5.heap.size := ⟨_, rfl⟩
  rw [← hsb] at SB ⊢
  clear hsb
  have hE6 := hE5.trans hx6
  have hP6 := hP5.ext hx6
  have hM6 := hM5.ext hx6
  have PB6 := PB5.ext hx6
  have B6 := B5.ext hx6
  have hz := hz.ext hx6
  have hX := hX.ext hx6
  have hY := hY.ext hx6
  have c0 := PB6.c0
  have c1 := PB6.c1
  clear hE5 hx6 hP5 PB5 hM5 B5
  go_wp2_with fail
  refine (Valid_b _ p _ hP6).mono ?_
  rintro e w7 ⟨rfl, hx7⟩
  have hE7 := hE6.trans hx7
  have SB7 := SB.ext hx7
  have PB7 := PB6.ext hx7
  have hP7 := hP6.ext hx7
  have hz := hz.ext hx7
  have hX := hX.ext hx7
  have hY := hY.ext hx7
  clear c0 c1 SB PB6 hP6 hM6 B6 hx7 hE6
  have c0 := PB7.c0
  have c1 := PB7.c1
  have s0 := SB7.c0
  have s1 := SB7.c1
  have s2 := SB7.c2
  have s3 := SB7.c3
  have s4 : w7.cell? ⟨sb, 4, none⟩ = some (.slice Ax nx cx) := SB7.cell 4
  have s5 : w7.cell? ⟨sb, 5, none⟩ = some (.slice Ay ny cy) := SB7.cell 5
  cases hval : validB p with
  | false =>
    obtain ⟨rfl, rfl, rfl, rfl⟩ : k = 3 ∧ z = 0 ∧ nx = 0 ∧ ny = 0 := by
      rcases HRES.out with ⟨_, h⟩ | ⟨h, _⟩
      · exact h
      · rw [hval] at h; cases h
    go_wp2_with fail
    refine (RatSign_b _ 0 _ _ hz).mono ?_
    rintro e w8 ⟨rfl, hx8⟩
    go_wp2_with fail
    go_ret
    exact ⟨rfl, hE7.trans hx8⟩
  | true =>
    have HV := Lib.hid hval
    have ha := Prob.sol_ans (validB_iff.1 hval).vrel
    have hq : (k = 0 ∧ nx = p.n ∧ ny = p.m ∧ p.Feas xs ∧ dot p.n p.obj xs = z ∧ p.Proves ys z) ∨ ((k = 17 ∨ k = 18) ∧ z = 0 ∧ nx = 0 ∧ ny = 0) := by
      rcases HRES.out with ⟨h, _⟩ | ⟨_, h1, h2, h3⟩
      · rw [hval] at h; cases h
      · cases hs : p.sol with
        | opt z' x' y' =>
          rw [hs] at h1 h2 h3 ha
          rcases h3 with ⟨g1, g2, g3, g4⟩ | ⟨g1, _⟩
          · injection g4 with e1 e2 e3
            subst e1 e2 e3
            exact .inl ⟨g1, g2, g3, ha⟩
          · exact absurd h1 g1
        | inf y' =>
          rw [hs] at h1 h2 h3
          rcases h3 with ⟨g1, _⟩ | ⟨_, g2, g3⟩
          · rw [h1] at g1; cases g1
          · exact .inr ⟨.inl h1, h2, g2, g3⟩
        | unb =>
          rw [hs] at h1 h2 h3
          rcases h3 with ⟨g1, _⟩ | ⟨_, g2, g3⟩
          · rw [h1] at g1; cases g1
          · exact .inr ⟨.inr h1, h2, g2, g3⟩
    clear ha HRES
    rcases hq with ⟨rfl, rfl, rfl, hfe, hdo, hpr⟩ | ⟨hk, rfl, rfl, rfl⟩
    · have HFE : Hid (feasB p p.n xs = true) := Lib.hid (feasB_iff.2 ⟨validB_iff.1 hval, rfl, hfe⟩)
      have HDO := Lib.hid hdo
      have HPR := Lib.hid hpr
      have HIF : Hid (∀ n', n' = p.n → (if validB p = true ∧ n' = p.n then dot p.n p.obj xs else 0) = z) := Lib.hid (fun n' hn => by rw [if_pos ⟨hval, hn⟩, hdo])
      clear hfe hdo hpr hval
      go_upto_region 9 with fail
      have kq0 : ∀ w', Later w7 w' → w'.cell? ⟨qb, 0, none⟩ = some _ := fun w' h => Later.cell h c0
      have kq1 : ∀ w', Later w7 w' → w'.cell? ⟨qb, 1, none⟩ = some _ := fun w' h => Later.cell h c1
      have kt0 : ∀ w', Later w7 w' → w'.cell? ⟨sb, 0, none⟩ = some _ := fun w' h => Later.cell h s0
      have kt1 : ∀ w', Later w7 w' → w'.cell? ⟨sb, 1, none⟩ = some _ := fun w' h => Later.cell h s1
      have kt2 : ∀ w', Later w7 w' → w'.cell? ⟨sb, 2, none⟩ = some _ := fun w' h => Later.cell h s2
      have kt3 : ∀ w', Later w7 w' → w'.cell? ⟨sb, 3, none⟩ = some _ := fun w' h => Later.cell h s3
      have kt4 : ∀ w', Later w7 w' → w'.cell? ⟨sb, 4, none⟩ = some _ := fun w' h => Later.cell h s4
      have kt5 : ∀ w', Later w7 w' → w'.cell? ⟨sb, 5, none⟩ = some _ := fun w' h => Later.cell h s5
      have ks := Later.refl w7
      have HN : Hid (p.n ≤ 1099511627776 ∧ 1 + p.n * (2 + 16000002 + 1) ≤ 200000000 ∧ 1 + p.m * (2 + 2 + 16000002 + 1) ≤ 200000000) := Lib.hid (by have := HPN.out; have := HPM.out; omega)
      clear c0 c1 s0 s1 s2 s3 s4 s5 SB7 PB7
      go_region_held3 (fun w' => Later w7 w') ((repeat (first | assumption | apply Later.drew | apply Later.drewN | apply Later.alloc | (refine Later.step ?_ (by assumption))))) (first
        | (go_at_call 37; (with_reducible refine (Feasible_b _ p _ _ _ _ 2 2 16000002 200000000 _ (ProbV.ext hP7 (by repeat (first | (with_reducible exact Ext.refl _) | (with_reducible apply Ext.drew) | (with_reducible apply Ext.drewN) | (with_reducible refine Ext.trans ?_ (by assumption))))) (RatsV.ext hX (by repeat (first | (with_reducible exact Ext.refl _) | (with_reducible apply Ext.drew) | (with_reducible apply Ext.drewN) | (with_reducible refine Ext.trans ?_ (by assumption))))) HCF.out.1 HCF.out.2.1 HBX.out HN.out.1 HN.out.2.1 (by omega) (by omega) (by omega)).mono ?_); rintro e wk ⟨rfl, hxk⟩; rw [HFE.out])
        | (go_at_call 38; (with_reducible refine (Value_b _ p _ _ _ _ 2 16000002 200000000 _ (ProbV.ext hP7 (by repeat (first | (with_reducible exact Ext.refl _) | (with_reducible apply Ext.drew) | (with_reducible apply Ext.drewN) | (with_reducible refine Ext.trans ?_ (by assumption))))) (RatsV.ext hX (by repeat (first | (with_reducible exact Ext.refl _) | (with_reducible apply Ext.drew) | (with_reducible apply Ext.drewN) | (with_reducible refine Ext.trans ?_ (by assumption))))) HCF.out.2.2 HBX.out HN.out.1 HN.out.2.1 (by omega) (by omega)).mono ?_); rintro e wl ⟨vl, rfl, hbl, hxl⟩; (rw [HIF.out p.n rfl] at hbl); (obtain ⟨pl, Al, nl, cl, pl', Al', nl', cl', rfl⟩ := hbl.1.shape))
        | (go_at_call 28; (with_reducible refine (RatCmp_b _ _ _ _ _ _ _ (RatB.ext hbl (by repeat (first | (with_reducible exact Ext.refl _) | (with_reducible apply Ext.drew) | (with_reducible apply Ext.drewN) | (with_reducible refine Ext.trans ?_ (by assumption))))) (RatB.ext hz (by repeat (first | (with_reducible exact Ext.refl _) | (with_reducible apply Ext.drew) | (with_reducible apply Ext.drewN) | (with_reducible refine Ext.trans ?_ (by assumption))))) (by omega)).mono ?_); rintro e wm ⟨rfl, hxm⟩; rw [cmpQ_self])
        | (go_at_call 39; (with_reducible refine (proves_ok _ p _ _ _ _ z 2 2 2 16000002 16000002 200000000 _ (ProbV.ext hP7 (by repeat (first | (with_reducible exact Ext.refl _) | (with_reducible apply Ext.drew) | (with_reducible apply Ext.drewN) | (with_reducible refine Ext.trans ?_ (by assumption))))) HV.out (RatsV.ext hY (by repeat (first | (with_reducible exact Ext.refl _) | (with_reducible apply Ext.drew) | (with_reducible apply Ext.drewN) | (with_reducible refine Ext.trans ?_ (by assumption))))) (RatB.ext hz (by repeat (first | (with_reducible exact Ext.refl _) | (with_reducible apply Ext.drew) | (with_reducible apply Ext.drewN) | (with_reducible refine Ext.trans ?_ (by assumption))))) HCF.out.1 HCF.out.2.1 HCF.out.2.2 HBY.out HN.out.2.2 (by omega) (by omega) (by omega) (by omega) HPR.out).mono ?_); rintro e wn ⟨rfl, hxn⟩)
        )
      all_goals (
        have hxx : Ext w7 wn := by assumption
        go_wp2_with fail
        go_ret
        exact ⟨rfl, hE7.trans hxx⟩)
    · clear hval
      rcases hk with rfl | rfl
      · go_wp2_with fail
        refine (RatSign_b _ 0 _ _ hz).mono ?_
        rintro e w8 ⟨rfl, hx8⟩
        go_wp2_with fail
        go_ret
        exact ⟨rfl, hE7.trans hx8⟩
      · go_wp2_with fail
        refine (RatSign_b _ 0 _ _ hz).mono ?_
        rintro e w8 ⟨rfl, hx8⟩
        go_wp2_with fail
        go_ret
        exact ⟨rfl, hE7.trans hx8⟩
end Go.Proofs.YtgffcblldebelaaDoor.Lp
