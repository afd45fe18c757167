/- The law LpSmall, walked. -/
import Derived.Test.YtgffcblldebelaaDoorLZJ
import Derived.Test.YtgffcblldebelaaDoorLZL
import Derived.Test.YtgffcblldebelaaDoorLX6A
set_option linter.unusedVariables false
set_option linter.unusedSimpArgs false
namespace Go.Proofs.YtgffcblldebelaaDoor.Lp
open Go.RowKit Go.Proofs.YtgffcblldebelaaDoor.Big Go.Proofs.YtgffcblldebelaaDoor.Rt

set_option maxHeartbeats 1000000 in
set_option maxRecDepth 100000 in
theorem small_any (v : Value) (ip : IP) (w : World) (h : IPV w v ip) (hok : ip.ok) (htab : TabOK w) : Calls Tryd.prog 5 #[v] w (ValPost w (.bool true)) := by
  have h0 := h
  obtain ⟨Ao, co, Ar, cr, rfl, -, -, -, -⟩ := h0
  obtain ⟨n0, hn0⟩ : ∃ n, n = ip.obj.length := ⟨_, rfl⟩
  obtain ⟨m0, hm0⟩ : ∃ n, n = ip.rows.length := ⟨_, rfl⟩
  obtain ⟨d0, hd0⟩ : ∃ n, n = ip.den := ⟨_, rfl⟩
  have HN0 := Lib.hid hn0
  have HM0 := Lib.hid hm0
  rw [← hn0, ← hm0, ← hd0] at h ⊢
  have HOK := Lib.hid hok
  clear hn0 hm0 hd0 hok
  have B := Box.new w 25 #[.slice Ao n0 co, .slice Ar m0 cr, .int .u8 (d0 : Int)]
  have hE : Ext w (w.alloc (.cells #[.slice Ao n0 co, .slice Ar m0 cr, .int .u8 (d0 : Int)] 25)) := (Ext.refl w).alloc _
  go_enter Tryd.func5, Tryd.ntmps5
  go_upto_region 1 with fail
  generalize (w.alloc (.cells #[.slice Ao n0 co, .slice Ar m0 cr, .int .u8 (d0 : Int)] 25)) = V at *
  obtain ⟨ab, hab⟩ : ∃ x, x = w.heap.size := ⟨_, rfl⟩
  rw [← hab] at B ⊢
  clear hab
  go_wp2_with fail
  refine (awake_b _ (htab.ext hE)).mono ?_
  rintro e w1 ⟨rfl, hx1⟩
  replace hE := hE.trans hx1
  replace B := B.ext hx1
  have c0 := B.c0
  have c1 := B.c1
  have c2 := B.c2
  clear hx1
  go_wp2_with fail
  refine (little_b _ ip _ (h.ext hE) HOK.out).mono ?_
  rintro e w2 ⟨rfl, hx2⟩
  replace hE := hE.trans hx2
  replace B := B.ext hx2
  clear c0 c1 c2 hx2
  obtain ⟨F, hF⟩ : ∃ F, F = littleB ip := ⟨_, rfl⟩
  rw [← hF]
  have HFI := Lib.hid hF
  clear hF
  cases F with
  | false =>
    go_wp2_with fail
    refine (awake_b _ (htab.ext hE)).mono ?_
    rintro e w3 ⟨rfl, hx3⟩
    go_wp2_with fail
    go_ret
    exact ⟨rfl, hE.trans hx3⟩
  | true =>
  have HLI := Lib.hid (little_iff.1 HFI.out.symm)
  have HVA : Hid (true = validB ip.pl.toP) := Lib.hid HLI.out.2.2.2.2.1.symm
  have HBD : Hid (Bnd ip.pl.toP 16000000) := Lib.hid (IP.bnd HOK.out (by rw [IP.pn]; have := HLI.out.2.2.1; omega) (by rw [IP.pm]; have := HLI.out.2.2.2.1; omega) HVA.out.symm)
  have c0 := B.c0
  have c1 := B.c1
  have c2 := B.c2
  go_wp2_with fail
  refine (Make_b _ ip _ (h.ext hE) HOK.out).mono ?_
  rintro e w5 ⟨v5, a5, rfl, hM5, hx5⟩
  have hP5 := hM5.prob
  have hv5 := hM5.val
  subst hv5
  replace hE := hE.trans hx5
  replace B := B.ext hx5
  clear c0 c1 c2 hx5 hM5
  go_wp2_with fail
  refine (Solve_l _ _ 16000000 _ hP5 (fun _ => HBD.out)).mono ?_
  rintro e w6 ⟨q, A, n, c, q', A', n', c', Ax, nx, cx, Ay, ny, cy, k, z, xs, ys, rfl, hz, hX, hY, hbx, hby, hres, hx6⟩
  replace hE := hE.trans hx6
  replace B := B.ext hx6
  have hkz : ip.pl.valid = true ∧ k = ip.pl.err ∧ z = ip.pl.val := by
    rcases hres.pl with h | ⟨h, _⟩
    · exact h
    · rw [(validB_pl _).1 HVA.out.symm] at h; cases h
  have HKZ := Lib.hid hkz
  clear hP5 hx6 hX hY hbx hby hres hkz
  go_upto_region 4 with fail
  have SB := Box.new w6 39 #[.bool q, .slice A n c, .bool q', .slice A' n' c', .slice Ax nx cx, .slice Ay ny cy]
  have hx7 : Ext w6 (w6.alloc (.cells #[.bool q, .slice A n c, .bool q', .slice A' n' c', .slice Ax nx cx, .slice Ay ny cy] 39)) := (Ext.refl w6).alloc _
  generalize (w6.alloc (.cells #[.bool q, .slice A n c, .bool q', .slice A' n' c', .slice Ax nx cx, .slice Ay ny cy] 39)) = U at *
  obtain ⟨sb, hsb⟩ : ∃ x, x = w6.heap.size := ⟨_, rfl⟩
  rw [← hsb] at SB ⊢
  clear hsb
  replace hE := hE.trans hx7
  replace B := B.ext hx7
  replace hz := hz.ext hx7
  clear hx7
  have HRO := Lib.hid (little_ok HFI.out.symm)
  have HRS := Lib.hid (little_sm HFI.out.symm HOK.out)
  have HSO := Lib.hid (RP.solve_ok HRO.out)
  have HSI := Lib.hid (RP.solve_in HRO.out HRS.out)
  have HPL := Lib.hid (IP.rp_pl (p := ip) HLI.out.1)
  have c0 := B.c0
  have c1 := B.c1
  have c2 := B.c2
  go_wp2_with fail
  refine (plain_b _ ip _ (h.ext hE) HOK.out).mono ?_
  rintro e w7 ⟨v7, rfl, hP7, hx7⟩
  replace hE := hE.trans hx7
  replace SB := SB.ext hx7
  replace hz := hz.ext hx7
  clear c0 c1 c2 B hx7
  go_wp2_with fail
  refine (rsolve_b _ ip.rp _ hP7 HRO.out HRS.out).mono ?_
  rintro e w8 ⟨rfl, hx8⟩
  replace hE := hE.trans hx8
  replace SB := SB.ext hx8
  replace hz := hz.ext hx8
  clear hP7 hx8
  obtain ⟨S, hS⟩ : ∃ S, S = ip.rp.solve := ⟨_, rfl⟩
  rw [← hS] at HSO HSI ⊢
  clear hS
  obtain ⟨rn, rd, rf⟩ := S
  have HE : Hid (k = rf ∧ z = Rat.divInt rn rd ∧ 0 < rd ∧ rd ≤ 1296000 ∧ -240000000 ≤ rn ∧ rn ≤ 240000000) := Lib.hid (by
    obtain ⟨a1, a2, a3⟩ := HKZ.out
    obtain ⟨b1, b2, b3⟩ := HSO.out
    obtain ⟨d1, d2, d3⟩ := HSI.out
    rw [HPL.out] at a2 a3
    refine ⟨?_, ?_, b1, d3, d1.1, d1.2⟩
    · exact a2.trans b2.symm
    · rw [a3, ← b3, Rat.divInt_eq_div])
  obtain ⟨hk, hzq, i1, i2, i3, i4⟩ := HE.out
  rw [hzq] at hz
  subst hk
  clear hzq HE HSO HSI HKZ
  go_wp2_with fail
  refine (Frac_b rn rd _ (by omega) (by omega) (by omega) (by omega) (by omega)).mono ?_
  rintro e w9 ⟨v9, rfl, hb9, hx9⟩
  obtain ⟨p1, A1, m1, c1, p1', A1', m1', c1', rfl⟩ := hb9.1.shape
  replace hE := hE.trans hx9
  replace SB := SB.ext hx9
  replace hz := hz.ext hx9
  clear hx9
  go_upto_region 6 with fail
  have FB := Box.new w9 37 #[.bool p1, .slice A1 m1 c1, .bool p1', .slice A1' m1' c1']
  have hx10 : Ext w9 (w9.alloc (.cells #[.bool p1, .slice A1 m1 c1, .bool p1', .slice A1' m1' c1'] 37)) := (Ext.refl w9).alloc _
  generalize (w9.alloc (.cells #[.bool p1, .slice A1 m1 c1, .bool p1', .slice A1' m1' c1'] 37)) = Y at *
  obtain ⟨fb, hfb⟩ : ∃ x, x = w9.heap.size := ⟨_, rfl⟩
  rw [← hfb] at FB ⊢
  clear hfb
  replace hE := hE.trans hx10
  replace SB := SB.ext hx10
  replace hz := hz.ext hx10
  replace hb9 := hb9.ext hx10
  clear hx10
  have s0 := SB.c0
  have s1 := SB.c1
  have s2 := SB.c2
  have s3 := SB.c3
  have f0 := FB.c0
  have f1 := FB.c1
  have f2 := FB.c2
  have f3 := FB.c3
  go_wp2_with fail
  refine (RatCmp_b _ _ _ _ _ _ _ hz hb9 (by omega)).mono ?_
  rintro e w10 ⟨rfl, hx11⟩
  have hc : cmpQ (Rat.divInt rn rd) (Rat.divInt rn rd) = 0 := by unfold cmpQ; simp
  rw [hc]
  go_wp2_with fail
  go_ret
  exact ⟨rfl, hE.trans hx11⟩
end Go.Proofs.YtgffcblldebelaaDoor.Lp
