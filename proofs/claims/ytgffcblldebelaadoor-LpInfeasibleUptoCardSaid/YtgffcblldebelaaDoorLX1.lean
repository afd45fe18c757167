/- The law LpInfeasible, walked. -/
import Derived.Test.YtgffcblldebelaaDoorLW0
import Derived.Test.YtgffcblldebelaaDoorLV8
set_option linter.unusedVariables false
set_option linter.unusedSimpArgs false
namespace Go.Proofs.YtgffcblldebelaaDoor.Lp
open Go.RowKit Go.Proofs.YtgffcblldebelaaDoor.Big Go.Proofs.YtgffcblldebelaaDoor.Rt

set_option maxHeartbeats 8000000 in
set_option maxRecDepth 100000 in
theorem infeasible_any (v : Value) (ip : IP) (w : World) (h : IPV w v ip) (hok : ip.ok) (htab : TabOK w) : Calls Tryd.prog 3 #[v] w (ValPost w (.bool true)) := by
  have h0 := h
  obtain ⟨Ao, co, Ar, cr, rfl, -, -, -, -⟩ := h0
  obtain ⟨n0, hn0⟩ : ∃ n, n = ip.obj.length := ⟨_, rfl⟩
  obtain ⟨m0, hm0⟩ : ∃ n, n = ip.rows.length := ⟨_, rfl⟩
  obtain ⟨d0, hd0⟩ : ∃ n, n = ip.den := ⟨_, rfl⟩
  have HN0 := Lib.hid hn0
  have HM0 := Lib.hid hm0
  rw [← hn0, ← hm0, ← hd0] at h ⊢
  have HOK := Lib.hid hok
  clear hn0 hm0 hd0 hok
  have B := Box.new w 25 #[.slice Ao n0 co, .slice Ar m0 cr, .int .u8 (d0 : Int)]
  have hE0 : Ext w (w.alloc (.cells #[.slice Ao n0 co, .slice Ar m0 cr, .int .u8 (d0 : Int)] 25)) := (Ext.refl w).alloc _
  go_enter Tryd.func3, Tryd.ntmps3
  go_upto_region 1 with fail
  generalize (w.alloc (.cells #[.slice Ao n0 co, .slice Ar m0 cr, .int .u8 (d0 : Int)] 25)) = V at *
  go_wp2_with fail
  refine (awake_b _ (htab.ext hE0)).mono ?_
  rintro e w1 ⟨rfl, hx1⟩
  have hE1 := hE0.trans hx1
  have B := B.ext hx1
  have c0 := B.c0
  have c1 := B.c1
  have c2 := B.c2
  clear hE0 hx1
  go_wp2_with fail
  refine (fits_b _ ip _ (h.ext hE1)).mono ?_
  rintro e w2 ⟨rfl, hx2⟩
  have hE2 := hE1.trans hx2
  have B := B.ext hx2
  clear c0 c1 c2 hE1 hx2
  obtain ⟨F, hF⟩ : ∃ F, F = fitB ip := ⟨_, rfl⟩
  rw [← hF]
  have HFI := Lib.hid hF
  clear hF
  cases F with
  | false =>
    go_wp2_with fail
    refine (awake_b _ (htab.ext hE2)).mono ?_
    rintro e w3 ⟨rfl, hx3⟩
    go_wp2_with fail
    go_ret
    exact ⟨rfl, hE2.trans hx3⟩
  | true =>
  have c0 := B.c0
  have c1 := B.c1
  have c2 := B.c2
  go_wp2_with fail
  refine (Make_b _ ip _ (h.ext hE2) HOK.out).mono ?_
  rintro e w3 ⟨v3, a, rfl, hM, hx3⟩
  have hP := hM.prob
  have hv3 := hM.val
  subst hv3
  have hE3 := hE2.trans hx3
  have hfit := fitB_iff.1 HFI.out.symm
  have HPN : Hid (ip.pl.toP.n ≤ 8) := Lib.hid (by rw [IP.pn]; exact hfit.1)
  have HPM : Hid (ip.pl.toP.m ≤ 8) := Lib.hid (by rw [IP.pm]; exact hfit.2)
  have HBD : Hid (validB ip.pl.toP = true → Bnd ip.pl.toP 16000000) := Lib.hid (fun hv => IP.bnd HOK.out HPN.out (by have := HPM.out; omega) hv)
  clear hM hE2 hx3 c0 c1 c2 B hfit
  obtain ⟨p, hp⟩ : ∃ p, p = ip.pl.toP := ⟨_, rfl⟩
  have HCF : Hid ((∀ i, i < p.m → ∀ j, j < p.n → QB 2 (p.coef i j)) ∧ (∀ i, i < p.m → QB 2 (p.right i))) := Lib.hid (by rw [hp]; exact ⟨fun i hi j _ => IP.coef_b HOK.out hi j, fun i hi => IP.right_b HOK.out hi⟩)
  rw [← hp] at hP HPN HPM HBD ⊢
  clear hp
  go_upto_region 4 with fail
  have PB := Box.new w3 31 #[.slice a.Ao p.n a.co, .slice a.Ar p.m a.cr]
  have hx4 : Ext w3 (w3.alloc (.cells #[.slice a.Ao p.n a.co, .slice a.Ar p.m a.cr] 31)) := (Ext.refl w3).alloc _
  generalize (w3.alloc (.cells #[.slice a.Ao p.n a.co, .slice a.Ar p.m a.cr] 31)) = U at *
  have hP := hP.ext hx4
  have hE4 := hE3.trans hx4
  have c0 := PB.c0
  have c1 := PB.c1
  clear hE3 hx4
  go_wp2_with fail
  refine (Solve_l _ p 16000000 _ hP HBD.out).mono ?_
  rintro e w5 ⟨q, A, n, c, q', A', n', c', Ax, nx, cx, Ay, ny, cy, k, z, xs, ys, rfl, hz, hX, hY, hbx, hby, hres, hx5⟩
  have HRES := Lib.hid hres
  have hE5 := hE4.trans hx5
  have hP5 := hP.ext hx5
  have PB5 := PB.ext hx5
  clear hz hX hY hbx hby hres hE4 hx5 hP PB c0 c1
  go_upto_region 5 with fail
  have hx6 : Ext w5 (w5.alloc (.cells #[.bool q, .slice A n c, .bool q', .slice A' n' c', .slice Ax nx cx, .slice Ay ny cy] 39)) := (Ext.refl w5).alloc _
  generalize (w5.alloc (.cells #[.bool q, .slice A n c, .bool q', .slice A' n' c', .slice Ax nx cx, .slice Ay ny cy] 39)) = U6 at *
  have hE6 := hE5.trans hx6
  have hP6 := hP5.ext hx6
  have PB6 := PB5.ext hx6
  have c0 := PB6.c0
  have c1 := PB6.c1
  clear hE5 hx6 hP5 PB5
  go_wp2_with fail
  refine (Farkas_l _ p 16000000 _ hP6 HBD.out).mono ?_
  rintro e w7 ⟨Af, nf, cf, ok, yf, rfl, hYf, hbf, hfar, hx7⟩
  have hE7 := hE6.trans hx7
  have hP7 := hP6.ext hx7
  have PB7 := PB6.ext hx7
  have hk : (k == 17) = ok := by
    rcases hfar with ⟨rfl, hv, -, hs⟩ | ⟨rfl, -, hs⟩
    · rcases HRES.out with ⟨h1, _⟩ | ⟨_, h2, _⟩
      · rw [hv] at h1; cases h1
      · rw [h2, hs]; rfl
    · rcases HRES.out with ⟨_, h2, _⟩ | ⟨h1, h2, _⟩
      · rw [h2]; rfl
      · rw [h2]; simpa using hs h1
  have HFAR := Lib.hid hfar
  have HBF := Lib.hid hbf
  clear hfar hbf c0 c1 hE6 hx7 hP6 PB6
  cases ok with
  | false =>
    have hnf : nf = 0 := by
      rcases HFAR.out with ⟨h, _⟩ | ⟨_, h, _⟩
      · cases h
      · exact h
    subst hnf
    go_wp2_with fail
    go_ret
    exact ⟨rfl, hE7⟩
  | true =>
    have HQ : Hid (validB p = true ∧ nf = p.m ∧ p.sol = .inf yf) := Lib.hid (by
      rcases HFAR.out with ⟨_, h⟩ | ⟨h, _⟩
      · exact h
      · cases h)
    have c0 := PB7.c0
    have c1 := PB7.c1
    go_wp2_with fail
    refine (refutes_b _ p Af nf cf yf 2 2 16000002 200000000 _ hP7 HQ.out.1 hYf HCF.out.1 HCF.out.2 HBF.out (by have := HPM.out; omega) (by omega) (by omega)).mono ?_
    rintro e w8 ⟨rfl, hx8⟩
    go_wp2_with fail
    go_ret
    refine ⟨?_, hE7.trans hx8⟩
    obtain ⟨h1, h2, h3⟩ := HQ.out
    have ha := Prob.sol_ans (validB_iff.1 h1).vrel
    rw [h3] at ha
    rw [h2, refB_of ha]
    rfl
end Go.Proofs.YtgffcblldebelaaDoor.Lp
