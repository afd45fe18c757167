/- The law LpValues, walked. -/
import Derived.Test.YtgffcblldebelaaDoorLWA
set_option linter.unusedVariables false
set_option linter.unusedSimpArgs false
namespace Go.Proofs.YtgffcblldebelaaDoor.Lp
open Go.RowKit Go.Proofs.YtgffcblldebelaaDoor.Big Go.Proofs.YtgffcblldebelaaDoor.Rt

set_option maxHeartbeats 16000000 in
set_option maxRecDepth 100000 in
theorem values_any (v : Value) (ip : IP) (w : World) (h : IPV w v ip) (hok : ip.ok) (htab : TabOK w) : Calls Tryd.prog 11 #[v] w (ValPost w (.bool true)) := by
  have h0 := h
  obtain ⟨Ao, co, Ar, cr, rfl, -, -, -, -⟩ := h0
  obtain ⟨n0, hn0⟩ : ∃ n, n = ip.obj.length := ⟨_, rfl⟩
  obtain ⟨m0, hm0⟩ : ∃ n, n = ip.rows.length := ⟨_, rfl⟩
  obtain ⟨d0, hd0⟩ : ∃ n, n = ip.den := ⟨_, rfl⟩
  have HN0 := Lib.hid hn0
  have HM0 := Lib.hid hm0
  rw [← hn0, ← hm0, ← hd0] at h ⊢
  have HOK := Lib.hid hok
  clear hn0 hm0 hd0 hok
  have B := Box.new w 25 #[.slice Ao n0 co, .slice Ar m0 cr, .int .u8 (d0 : Int)]
  have hE0 : Ext w (w.alloc (.cells #[.slice Ao n0 co, .slice Ar m0 cr, .int .u8 (d0 : Int)] 25)) := (Ext.refl w).alloc _
  go_enter Tryd.func11, Tryd.ntmps11
  go_upto_region 1 with fail
  generalize (w.alloc (.cells #[.slice Ao n0 co, .slice Ar m0 cr, .int .u8 (d0 : Int)] 25)) = V at *
  obtain ⟨ab, hab⟩ : ∃ x, x = w.heap.size := ⟨_, rfl⟩
  rw [← hab] at B ⊢
  clear hab
  go_wp2_with fail
  refine (awake_b _ (htab.ext hE0)).mono ?_
  rintro e w1 ⟨rfl, hx1⟩
  have hE1 := hE0.trans hx1
  have B := B.ext hx1
  have c0 := B.c0
  have c1 := B.c1
  have c2 := B.c2
  clear hE0 hx1
  go_wp2_with fail
  refine (fits_b _ ip _ (h.ext hE1)).mono ?_
  rintro e w2 ⟨rfl, hx2⟩
  have hE2 := hE1.trans hx2
  have B := B.ext hx2
  clear c0 c1 c2 hE1 hx2
  obtain ⟨F, hF⟩ : ∃ F, F = fitB ip := ⟨_, rfl⟩
  rw [← hF]
  have HFI := Lib.hid hF
  clear hF
  cases F with
  | false =>
    go_wp2_with fail
    refine (awake_b _ (htab.ext hE2)).mono ?_
    rintro e w3 ⟨rfl, hx3⟩
    go_wp2_with fail
    go_ret
    exact ⟨rfl, hE2.trans hx3⟩
  | true =>
  have c0 := B.c0
  have c1 := B.c1
  have c2 := B.c2
  go_wp2_with fail
  refine (Make_b _ ip _ (h.ext hE2) HOK.out).mono ?_
  rintro e w3 ⟨v3, a, rfl, hM, hx3⟩
  have hP := hM.prob
  have hv3 := hM.val
  subst hv3
  have hE3 := hE2.trans hx3
  have hfit := fitB_iff.1 HFI.out.symm
  have HPN : Hid (ip.pl.toP.n ≤ 8) := Lib.hid (by rw [IP.pn]; exact hfit.1)
  have HPM : Hid (ip.pl.toP.m ≤ 8) := Lib.hid (by rw [IP.pm]; exact hfit.2)
  have HBD : Hid (validB ip.pl.toP = true → Bnd ip.pl.toP 16000000) := Lib.hid (fun hv => IP.bnd HOK.out HPN.out (by have := HPM.out; omega) hv)
  have B := B.ext hx3
  clear hE2 hx3 c0 c1 c2 hfit
  obtain ⟨p, hp⟩ : ∃ p, p = ip.pl.toP := ⟨_, rfl⟩
  have HPP := Lib.hid hp
  have HCF : Hid ((∀ i, i < p.m → ∀ j, j < p.n → QB 2 (p.coef i j)) ∧ (∀ i, i < p.m → QB 2 (p.right i)) ∧ (∀ j, j < p.n → QB 2 (p.obj j))) := Lib.hid (by rw [hp]; exact ⟨fun i hi j _ => IP.coef_b HOK.out hi j, fun i hi => IP.right_b HOK.out hi, fun j _ => IP.obj_b HOK.out j⟩)
  rw [← hp] at hP hM HPN HPM HBD ⊢
  clear hp
  go_upto_region 4 with fail
  have PB := Box.new w3 31 #[.slice a.Ao p.n a.co, .slice a.Ar p.m a.cr]
  have hx4 : Ext w3 (w3.alloc (.cells #[.slice a.Ao p.n a.co, .slice a.Ar p.m a.cr] 31)) := (Ext.refl w3).alloc _
  generalize (w3.alloc (.cells #[.slice a.Ao p.n a.co, .slice a.Ar p.m a.cr] 31)) = U at *
  obtain ⟨qb, hqb⟩ : ∃ x, x = w3.heap.size := ⟨_, rfl⟩
  rw [← hqb] at PB ⊢
  clear hqb
  have hP := hP.ext hx4
  have hM := hM.ext hx4
  have B := B.ext hx4
  have hE4 := hE3.trans hx4
  have c0 := PB.c0
  have c1 := PB.c1
  clear hE3 hx4
  go_wp2_with fail
  refine (Solve_l _ p 16000000 _ hP HBD.out).mono ?_
  rintro e w5 ⟨q, A, n, c, q', A', n', c', Ax, nx, cx, Ay, ny, cy, k, z, xs, ys, rfl, hz, hX, hY, hbx, hby, hres, hx5⟩
  have HRES := Lib.hid hres
  have HBX := Lib.hid hbx
  have HBY := Lib.hid hby
  have hE5 := hE4.trans hx5
  have hP5 := hP.ext hx5
  have hM5 := hM.ext hx5
  have PB5 := PB.ext hx5
  have B5 := B.ext hx5
  clear hbx hby hres hE4 hx5 hP PB c0 c1 hM B
  go_upto_region 5 with fail
  have SB := Box.new w5 39 #[.bool q, .slice A n c, .bool q', .slice A' n' c', .slice Ax nx cx, .slice Ay ny cy]
  have hx6 : Ext w5 (w5.alloc (.cells #[.bool q, .slice A n c, .bool q', .slice A' n' c', .slice Ax nx cx, .slice Ay ny cy] 39)) := (Ext.refl w5).alloc _
  generalize (w5.alloc (.cells #[.bool q, .slice A n c, .bool q', .slice A' n' c', .slice Ax nx cx, .slice Ay ny cy] 39)) = U6 at *
  obtain ⟨sb, hsb⟩ : ∃ x, x = w5.heap.size := ⟨_, rfl⟩
  rw [← hsb] at SB ⊢
  clear hsb
  have hE6 := hE5.trans hx6
  have hP6 := hP5.ext hx6
  have hM6 := hM5.ext hx6
  have PB6 := PB5.ext hx6
  have B6 := B5.ext hx6
  have hz := hz.ext hx6
  have hX := hX.ext hx6
  have hY := hY.ext hx6
  have c0 := PB6.c0
  have c1 := PB6.c1
  clear hE5 hx6 hP5 PB5 hM5 B5
  have hE := hE6
  have PB := PB6
  have B := B6
  have hM := hM6
  clear hE6 PB6 B6 hM6
  go_wp2_with fail
  refine (Farkas_l _ p 16000000 _ hP6 HBD.out).mono ?_
  rintro e w7 ⟨Af, nf, cf, ok, yf, rfl, hF, hbf, hfar, hx7⟩
  have HBF := Lib.hid hbf
  have HFAR := Lib.hid hfar
  replace hE := hE.trans hx7
  replace PB := PB.ext hx7
  replace SB := SB.ext hx7
  replace B := B.ext hx7
  replace hM := hM.ext hx7
  replace hz := hz.ext hx7
  replace hX := hX.ext hx7
  replace hY := hY.ext hx7
  clear hx7 hbf hfar c0 c1 hP6
  have b0 := B.c0
  have b1 := B.c1
  have b2 := B.c2
  go_wp2_with fail
  refine (Make_b _ ip _ (h.ext hE) HOK.out).mono ?_
  rintro e w8 ⟨v8, a8, rfl, hM8, hx8⟩
  rw [← HPP.out] at hM8
  have hP8 := hM8.prob
  have hv8 := hM8.val
  subst hv8
  replace hE := hE.trans hx8
  replace PB := PB.ext hx8
  replace SB := SB.ext hx8
  replace B := B.ext hx8
  replace hM := hM.ext hx8
  replace hz := hz.ext hx8
  replace hX := hX.ext hx8
  replace hY := hY.ext hx8
  replace hF := hF.ext hx8
  clear hx8 b0 b1 b2 hM8
  go_wp2_with fail
  refine (Solve_l _ p 16000000 _ hP8 HBD.out).mono ?_
  rintro e w9 ⟨q2, A2, n2, c2, q2', A2', n2', c2', Ax2, nx2, cx2, Ay2, ny2, cy2, k2, z2, xs2, ys2, rfl, hz2, hX2, hY2, hbx2, hby2, hres2, hx9⟩
  obtain ⟨rfl, rfl, rfl, rfl, hxe, hye⟩ := HRES.out.same hres2
  have HXE := Lib.hid hxe
  have HYE := Lib.hid hye
  replace hE := hE.trans hx9
  replace PB := PB.ext hx9
  replace SB := SB.ext hx9
  replace B := B.ext hx9
  replace hM := hM.ext hx9
  replace hz := hz.ext hx9
  replace hX := hX.ext hx9
  replace hY := hY.ext hx9
  replace hF := hF.ext hx9
  clear hx9 hP8 hres2 hbx2 hby2 hxe hye
  go_upto_region 7 with fail
  have S2B := Box.new w9 39 #[.bool q2, .slice A2 n2 c2, .bool q2', .slice A2' n2' c2', .slice Ax2 nx cx2, .slice Ay2 ny cy2]
  have hx10 : Ext w9 (w9.alloc (.cells #[.bool q2, .slice A2 n2 c2, .bool q2', .slice A2' n2' c2', .slice Ax2 nx cx2, .slice Ay2 ny cy2] 39)) := (Ext.refl w9).alloc _
  generalize (w9.alloc (.cells #[.bool q2, .slice A2 n2 c2, .bool q2', .slice A2' n2' c2', .slice Ax2 nx cx2, .slice Ay2 ny cy2] 39)) = U10 at *
  obtain ⟨s2b, hs2b⟩ : ∃ x, x = w9.heap.size := ⟨_, rfl⟩
  rw [← hs2b] at S2B ⊢
  clear hs2b
  replace hz2 := hz2.ext hx10
  replace hX2 := hX2.ext hx10
  replace hY2 := hY2.ext hx10
  replace hE := hE.trans hx10
  replace PB := PB.ext hx10
  replace SB := SB.ext hx10
  replace B := B.ext hx10
  replace hM := hM.ext hx10
  replace hz := hz.ext hx10
  replace hX := hX.ext hx10
  replace hY := hY.ext hx10
  replace hF := hF.ext hx10
  clear hx10
  have b0 := B.c0
  have b1 := B.c1
  have b2 := B.c2
  go_wp2_with fail
  refine (Make_b _ ip _ (h.ext hE) HOK.out).mono ?_
  rintro e w11 ⟨v11, a11, rfl, hM11, hx11⟩
  rw [← HPP.out] at hM11
  have hP11 := hM11.prob
  have hv11 := hM11.val
  subst hv11
  replace hE := hE.trans hx11
  replace PB := PB.ext hx11
  replace SB := SB.ext hx11
  replace B := B.ext hx11
  replace hM := hM.ext hx11
  replace hz := hz.ext hx11
  replace hX := hX.ext hx11
  replace hY := hY.ext hx11
  replace hF := hF.ext hx11
  replace S2B := S2B.ext hx11
  replace hz2 := hz2.ext hx11
  replace hX2 := hX2.ext hx11
  replace hY2 := hY2.ext hx11
  clear hx11 b0 b1 b2 hM11
  go_wp2_with fail
  refine (Farkas_l _ p 16000000 _ hP11 HBD.out).mono ?_
  rintro e w12 ⟨Af2, nf2, cf2, ok2, yf2, rfl, hF2, hbf2, hfar2, hx12⟩
  obtain ⟨rfl, rfl, hfe⟩ : ok = ok2 ∧ nf = nf2 ∧ ∀ j, j < nf → yf j = yf2 j := by
    rcases HFAR.out with ⟨rfl, h1, rfl, h3⟩ | ⟨rfl, rfl, h3⟩
    · rcases hfar2 with ⟨rfl, _, rfl, g3⟩ | ⟨rfl, rfl, g3⟩
      · rw [h3] at g3
        injection g3 with g3
        exact ⟨rfl, rfl, fun j _ => by rw [g3]⟩
      · exact absurd (by rw [h3]; rfl) (g3 h1)
    · rcases hfar2 with ⟨rfl, g1, _, g3⟩ | ⟨rfl, rfl, g3⟩
      · exact absurd (by rw [g3]; rfl) (h3 g1)
      · exact ⟨rfl, rfl, fun j hj => absurd hj (by omega)⟩
  have HFE := Lib.hid hfe
  replace hE := hE.trans hx12
  replace PB := PB.ext hx12
  replace SB := SB.ext hx12
  replace B := B.ext hx12
  replace hM := hM.ext hx12
  replace hz := hz.ext hx12
  replace hX := hX.ext hx12
  replace hY := hY.ext hx12
  replace hF := hF.ext hx12
  replace S2B := S2B.ext hx12
  replace hz2 := hz2.ext hx12
  replace hX2 := hX2.ext hx12
  replace hY2 := hY2.ext hx12
  clear hx12 hP11 hbf2 hfar2 hfe
  have s0 := SB.c0
  have s1 := SB.c1
  have s2 := SB.c2
  have s3 := SB.c3
  have s4 : w12.cell? ⟨sb, 4, none⟩ = some (.slice Ax nx cx) := SB.cell 4
  have s5 : w12.cell? ⟨sb, 5, none⟩ = some (.slice Ay ny cy) := SB.cell 5
  have t0 := S2B.c0
  have t1 := S2B.c1
  have t2 := S2B.c2
  have t3 := S2B.c3
  have t4 : w12.cell? ⟨s2b, 4, none⟩ = some (.slice Ax2 nx cx2) := S2B.cell 4
  have t5 : w12.cell? ⟨s2b, 5, none⟩ = some (.slice Ay2 ny cy2) := S2B.cell 5
  go_wp2_with fail
  refine (same_b _ _ k k z z 16000002 _ ⟨_, _, _, _, _, _, _, _, _, _, _, _, _, _, rfl, hz⟩ ⟨_, _, _, _, _, _, _, _, _, _, _, _, _, _, rfl, hz2⟩ (by omega)).mono ?_
  rintro e w13 ⟨rfl, hx13⟩
  have e1 : ((k == k) && decide (z = z)) = true := by simp
  rw [e1]
  replace hE := hE.trans hx13
  replace PB := PB.ext hx13
  replace SB := SB.ext hx13
  replace B := B.ext hx13
  replace hM := hM.ext hx13
  replace hz := hz.ext hx13
  replace hX := hX.ext hx13
  replace hY := hY.ext hx13
  replace hF := hF.ext hx13
  replace S2B := S2B.ext hx13
  replace hz2 := hz2.ext hx13
  replace hX2 := hX2.ext hx13
  replace hY2 := hY2.ext hx13
  replace hF2 := hF2.ext hx13
  clear e1 s0 s1 s2 s3 s4 s5 t0 t1 t2 t3 t4 t5
  have s4 : w13.cell? ⟨sb, 4, none⟩ = some (.slice Ax nx cx) := SB.cell 4
  have t4 : w13.cell? ⟨s2b, 4, none⟩ = some (.slice Ax2 nx cx2) := S2B.cell 4
  go_wp2_with fail
  refine (equal_ok Ax Ax2 nx cx cx2 xs xs2 16000002 _ hX hX2 HBX.out HXE.out (by omega)).mono ?_
  rintro e w14 ⟨rfl, hx14⟩
  replace hE := hE.trans hx14
  replace PB := PB.ext hx14
  replace SB := SB.ext hx14
  replace B := B.ext hx14
  replace hM := hM.ext hx14
  replace hz := hz.ext hx14
  replace hX := hX.ext hx14
  replace hY := hY.ext hx14
  replace hF := hF.ext hx14
  replace S2B := S2B.ext hx14
  replace hz2 := hz2.ext hx14
  replace hX2 := hX2.ext hx14
  replace hY2 := hY2.ext hx14
  replace hF2 := hF2.ext hx14
  clear s4 t4
  have s5 : w14.cell? ⟨sb, 5, none⟩ = some (.slice Ay ny cy) := SB.cell 5
  have t5 : w14.cell? ⟨s2b, 5, none⟩ = some (.slice Ay2 ny cy2) := S2B.cell 5
  go_wp2_with fail
  refine (equal_ok Ay Ay2 ny cy cy2 ys ys2 16000002 _ hY hY2 HBY.out HYE.out (by omega)).mono ?_
  rintro e w15 ⟨rfl, hx15⟩
  replace hE := hE.trans hx15
  replace PB := PB.ext hx15
  replace SB := SB.ext hx15
  replace B := B.ext hx15
  replace hM := hM.ext hx15
  replace hz := hz.ext hx15
  replace hX := hX.ext hx15
  replace hY := hY.ext hx15
  replace hF := hF.ext hx15
  replace S2B := S2B.ext hx15
  replace hz2 := hz2.ext hx15
  replace hX2 := hX2.ext hx15
  replace hY2 := hY2.ext hx15
  replace hF2 := hF2.ext hx15
  clear s5 t5
  have e2 : (ok != ok) = false := by cases ok <;> rfl
  go_wp2_with fail
  refine (equal_ok Af Af2 nf cf cf2 yf yf2 16000002 _ hF hF2 HBF.out HFE.out (by omega)).mono ?_
  rintro e w16 ⟨rfl, hx16⟩
  replace hE := hE.trans hx16
  replace PB := PB.ext hx16
  replace SB := SB.ext hx16
  replace B := B.ext hx16
  replace hM := hM.ext hx16
  replace hz := hz.ext hx16
  replace hX := hX.ext hx16
  replace hY := hY.ext hx16
  clear hx13 hx14 hx15 hx16 hz hX hY hF hF2 hz2 hX2 hY2 SB S2B
  have b0 := B.c0
  have b1 := B.c1
  have b2 := B.c2
  go_wp2_with fail
  refine (Make_b _ ip _ (h.ext hE) HOK.out).mono ?_
  rintro e w17 ⟨v17, a17, rfl, hM17, hx17⟩
  rw [← HPP.out] at hM17
  have hv17 := hM17.val
  subst hv17
  go_upto_region 12 with fail
  have FB := Box.new w17 31 #[.slice a17.Ao p.n a17.co, .slice a17.Ar p.m a17.cr]
  have hx18 : Ext w17 (w17.alloc (.cells #[.slice a17.Ao p.n a17.co, .slice a17.Ar p.m a17.cr] 31)) := (Ext.refl w17).alloc _
  generalize (w17.alloc (.cells #[.slice a17.Ao p.n a17.co, .slice a17.Ar p.m a17.cr] 31)) = U18 at *
  obtain ⟨fb, hfb⟩ : ∃ x, x = w17.heap.size := ⟨_, rfl⟩
  rw [← hfb] at FB ⊢
  clear hfb
  have hx19 := hx17.trans hx18
  have hN := hM17.ext hx18
  replace hE := hE.trans hx19
  replace PB := PB.ext hx19
  replace hM := hM.ext hx19
  clear hx17 hx18 hx19 hM17 b0 b1 b2 B
  have c0 := PB.c0
  have c1 := PB.c1
  have d0 := FB.c0
  have d1 := FB.c1
  have HOB := Lib.hid (fun j (hj : j < p.n) => HCF.out.2.2 j hj)
  go_wp2_with fail
  refine (equal_ok _ _ p.n _ _ p.obj p.obj 2 _ hM.obj.rats hN.obj.rats HOB.out (fun _ _ => rfl) (by omega)).mono ?_
  rintro e w20 ⟨rfl, hx20⟩
  replace hE := hE.trans hx20
  replace PB := PB.ext hx20
  replace FB := FB.ext hx20
  replace hM := hM.ext hx20
  replace hN := hN.ext hx20
  clear hx20 c0 c1 d0 d1
  have c1 := PB.c1
  have d1 := FB.c1
  have e3 : ((p.m : Int) != (p.m : Int)) = false := by simp
  go_wp2_with fail
  clear c1 d1 e3
  obtain ⟨Am, hAm⟩ : ∃ x, x = a.Ar := ⟨_, rfl⟩
  obtain ⟨An, hAn⟩ : ∃ x, x = a17.Ar := ⟨_, rfl⟩
  rw [← hAm] at PB ⊢
  rw [← hAn]
  have HAM := Lib.hid hAm
  have HAN := Lib.hid hAn
  clear hAm hAn
  have hpm := HPM.out
  go_loopw [105] (fun i wr => ∃ j : Nat, j ≤ p.m ∧ i = .int .i64 j ∧ Ext w20 wr) (fun i _ => p.m - (intOf i).toNat)
  case atStart => exact ⟨0, by omega, rfl, Ext.refl w20⟩
  case round =>
    obtain ⟨j, hj, rfl, hx⟩ := hrel
    by_cases hlt : j < p.m
    · have hNx := hN.ext hx
      have hMx := hM.ext hx
      have PBx := PB.ext hx
      obtain ⟨hNr, -⟩ := hNx.blk (by omega)
      obtain ⟨hMr, -⟩ := hMx.blk (by omega)
      obtain ⟨g0, g1, -, xg, Bg, dg, eg, yg, Bg', dg', eg', g2, g3, g4, g5, hgr⟩ := hNx.rows.row j hlt
      obtain ⟨f0, f1, -, xf, Bf, df, ef, yf', Bf', df', ef', f2, f3, f4, f5, hfr⟩ := hMx.rows.row j hlt
      have hcf := (hMx.rows.coef j hlt).rats
      have hcg := (hNx.rows.coef j hlt).rats
      have hcap := hMx.cap.1
      have hcapN := hNx.cap.1
      have hAm := HAM.out.trans hMr
      have hAn := HAN.out.trans hNr
      clear hMr hNr HAM HAN
      subst hAm hAn
      have c1 := PBx.c1
      go_upto_region 17 with fail
      have FBx := Box.new wr 48 #[.slice (a17.rA j) (p.len j) (a17.rc j), .int .u8 (p.rel j : Int), .bool xg, .slice Bg dg eg, .bool yg, .slice Bg' dg' eg']
      have hEx : Ext wr (wr.alloc (.cells #[.slice (a17.rA j) (p.len j) (a17.rc j), .int .u8 (p.rel j : Int), .bool xg, .slice Bg dg eg, .bool yg, .slice Bg' dg' eg'] 48)) := (Ext.refl wr).alloc _
      generalize (wr.alloc (.cells #[.slice (a17.rA j) (p.len j) (a17.rc j), .int .u8 (p.rel j : Int), .bool xg, .slice Bg dg eg, .bool yg, .slice Bg' dg' eg'] 48)) = X at *
      obtain ⟨rb, hrb⟩ : ∃ x, x = wr.heap.size := ⟨_, rfl⟩
      rw [← hrb] at FBx ⊢
      clear hrb
      have hcf := hcf.ext hEx
      have hcg := hcg.ext hEx
      have hQf : RatB X _ (p.right j) 2 := ⟨hfr.ext hEx, HCF.out.2.1 j hlt⟩
      have hQg : RatB X _ (p.right j) 2 := ⟨hgr.ext hEx, HCF.out.2.1 j hlt⟩
      have kq1 : ∀ w', Later X w' → w'.cell? ⟨qb, 1, none⟩ = some _ := fun w' h => Later.cell h (hEx.cell c1)
      have kf0 : ∀ w', Later X w' → w'.cell? ⟨a.br, j * 6, none⟩ = some _ := fun w' h => Later.cell h (hEx.cell f0)
      have kf1 : ∀ w', Later X w' → w'.cell? ⟨a.br, j * 6 + 1, none⟩ = some _ := fun w' h => Later.cell h (hEx.cell f1)
      have kf2 : ∀ w', Later X w' → w'.cell? ⟨a.br, j * 6 + 2, none⟩ = some _ := fun w' h => Later.cell h (hEx.cell f2)
      have kf3 : ∀ w', Later X w' → w'.cell? ⟨a.br, j * 6 + 3, none⟩ = some _ := fun w' h => Later.cell h (hEx.cell f3)
      have kf4 : ∀ w', Later X w' → w'.cell? ⟨a.br, j * 6 + 4, none⟩ = some _ := fun w' h => Later.cell h (hEx.cell f4)
      have kf5 : ∀ w', Later X w' → w'.cell? ⟨a.br, j * 6 + 5, none⟩ = some _ := fun w' h => Later.cell h (hEx.cell f5)
      have kg0 : ∀ w', Later X w' → w'.cell? ⟨rb, 0, none⟩ = some _ := fun w' h => (FBx.ext h).c0
      have kg1 : ∀ w', Later X w' → w'.cell? ⟨rb, 1, none⟩ = some _ := fun w' h => (FBx.ext h).c1
      have kg2 : ∀ w', Later X w' → w'.cell? ⟨rb, 2, none⟩ = some _ := fun w' h => (FBx.ext h).c2
      have kg3 : ∀ w', Later X w' → w'.cell? ⟨rb, 3, none⟩ = some _ := fun w' h => (FBx.ext h).c3
      have kg4 : ∀ w', Later X w' → w'.cell? ⟨rb, 4, none⟩ = some (.bool yg) := fun w' h => (FBx.ext h).cell 4
      have kg5 : ∀ w', Later X w' → w'.cell? ⟨rb, 5, none⟩ = some (.slice Bg' dg' eg') := fun w' h => (FBx.ext h).cell 5
      have ks := Later.refl X
      have HLB : Hid (∀ i, i < p.len j → QB 2 (p.coef j i)) := Lib.hid (fun i hi => by rw [HPP.out]; rw [HPP.out] at hlt; exact IP.coef_b HOK.out hlt i)
      have i1 : (0 : Int) ≤ (j : Int) := by omega
      have i2 : (j : Int) < (p.m : Int) := by omega
      have e4 : ((p.rel j : Int) != (p.rel j : Int)) = false := by simp
      have hxX := hx.trans hEx
      clear c1 f0 f1 f2 f3 f4 f5 g0 g1 g2 g3 g4 g5 hgr hfr hNx hMx PBx FBx hEx
      go_region_held3 (fun w' => Later X w') ((repeat (first | assumption | apply Later.drew | apply Later.drewN | apply Later.alloc | (refine Later.step ?_ (by assumption))))) (first
        | (go_at_call 35; (with_reducible refine (equal_ok _ _ _ _ _ (p.coef j) (p.coef j) 2 _ (RatsV.ext hcf (by repeat (first | (with_reducible exact Ext.refl _) | (with_reducible apply Ext.drew) | (with_reducible apply Ext.drewN) | (with_reducible refine Ext.trans ?_ (by assumption))))) (RatsV.ext hcg (by repeat (first | (with_reducible exact Ext.refl _) | (with_reducible apply Ext.drew) | (with_reducible apply Ext.drewN) | (with_reducible refine Ext.trans ?_ (by assumption))))) HLB.out (fun _ _ => rfl) (by omega)).mono ?_); rintro e wk ⟨rfl, hxk⟩)
        | (go_at_call 28; (with_reducible refine (RatCmp_b _ _ _ _ _ _ _ (RatB.ext hQf (by repeat (first | (with_reducible exact Ext.refl _) | (with_reducible apply Ext.drew) | (with_reducible apply Ext.drewN) | (with_reducible refine Ext.trans ?_ (by assumption))))) (RatB.ext hQg (by repeat (first | (with_reducible exact Ext.refl _) | (with_reducible apply Ext.drew) | (with_reducible apply Ext.drewN) | (with_reducible refine Ext.trans ?_ (by assumption))))) (by omega)).mono ?_); rintro e wl ⟨rfl, hxl⟩; rw [cmpQ_self])
        )
      all_goals (
        have hxk2 : Ext X wl := by assumption
        have hxx := hxX.trans hxk2
        clear kq1 kf0 kf1 kf2 kf3 kf4 kf5 kg0 kg1 kg2 kg3 kg4 kg5 hcf hcg hQf hQg HLB hM hN PB FB e4
        go_wp2_with fail
        go_roundw
        case rel => exact ⟨j + 1, by omega, by go_num, hxx⟩
        case measure => simp [intOf]; omega)
    · obtain rfl : j = p.m := by omega
      go_wp2_with fail
      go_ret
      exact ⟨rfl, hE.trans hx⟩
end Go.Proofs.YtgffcblldebelaaDoor.Lp
