/- The law IlpPoint, walked. -/
import Derived.Test.YthafabkjidifeaaIR
import Derived.Test.YthafabkjidifeaaIPL
import Derived.Test.YthafabkjidifeaaLV8
import Derived.Test.YthafabkjidifeaaLV3
set_option linter.unusedVariables false
set_option linter.unusedSimpArgs false
namespace Go.Proofs.Ythafabkjidifeaa.Lp
open Go.RowKit Go.Proofs.Ythafabkjidifeaa.Big Go.Proofs.Ythafabkjidifeaa.Rt

theorem QB_fit {z : Int} (h : fit z = true) : QB 3 (z : Rat) := by
  have := fit_QB h false
  simpa using this
set_option maxHeartbeats 2000000 in
set_option maxRecDepth 100000 in
theorem point_any (v : Value) (ip : IP) (w : World) (hv : IPV w v ip) (hok : ip.ok) : Calls Try.prog 9 #[v] w (ValPost w (.bool true)) := by
  obtain ⟨Ai, ni, ci, Aj, nj, cj, dd, rfl⟩ : ∃ A n c A' n' c' d, v = .agg #[.slice A n c, .slice A' n' c', .int .u8 d] := by
    obtain ⟨A, c, A', c', rfl, -⟩ := id hv
    exact ⟨_, _, _, _, _, _, _, rfl⟩
  have B1 := Box.new w 25 #[.slice Ai ni ci, .slice Aj nj cj, .int .u8 dd]
  have hE0 : Ext w (w.alloc (.cells #[.slice Ai ni ci, .slice Aj nj cj, .int .u8 dd] 25)) := (Ext.refl w).alloc _
  go_enter Try.func9, Try.ntmps9
  go_upto_region 1 with fail
  generalize (w.alloc (.cells #[.slice Ai ni ci, .slice Aj nj cj, .int .u8 dd] 25)) = V at *
  obtain ⟨ab, hab⟩ : ∃ x, x = w.heap.size := ⟨_, rfl⟩
  rw [← hab] at B1 ⊢
  clear hab
  go_wp2_with fail
  refine (awake_i _).mono ?_
  rintro e w1 ⟨rfl, hx1⟩
  have hE1 := hE0.trans hx1
  have B1 := B1.ext hx1
  have c0 : w1.cell? ⟨ab, 0, none⟩ = some _ := B1.cell 0
  have c1 : w1.cell? ⟨ab, 1, none⟩ = some _ := B1.cell 1
  have c2 : w1.cell? ⟨ab, 2, none⟩ = some _ := B1.cell 2
  clear hE0 hx1
  go_wp2_with fail
  refine (whole_i _ ip _ (hv.ext hE1) hok).mono ?_
  clear c0 c1 c2
  rintro e w2 ⟨Ao, no, co, Ar, mo, cr, ok, rfl, hx2, hwok⟩
  have hE2 := hE1.trans hx2
  have HWOK := Lib.hid hwok
  clear hE1 hx2 hwok
  go_upto_region 4 with fail
  have PB := Box.new w2 39 #[.slice Ao no co, .slice Ar mo cr]
  have hx3 : Ext w2 (w2.alloc (.cells #[.slice Ao no co, .slice Ar mo cr] 39)) := (Ext.refl w2).alloc _
  generalize (w2.alloc (.cells #[.slice Ao no co, .slice Ar mo cr] 39)) = U at *
  obtain ⟨pb, hpb⟩ : ∃ x, x = w2.heap.size := ⟨_, rfl⟩
  rw [← hpb] at PB ⊢
  clear hpb
  have hE3 := hE2.trans hx3
  cases ok with
  | false =>
    clear HWOK
    go_wp2_with fail
    go_ret
    exact ⟨rfl, hE3⟩
  | true =>
  obtain ⟨hn6, hm8, hval, hno, hmo, hP0⟩ := HWOK.out rfl
  have hP := hP0.ext hx3
  obtain ⟨P, hPP⟩ : ∃ P, P = ip.nod.pl.toP := ⟨_, rfl⟩
  rw [← hPP] at hval hno hmo hP
  have hint : intB P = true := by rw [hPP]; exact IP.int rfl
  have hCan : ∀ M, M ≤ 68 → P.m ≤ M → CanI P 6 M 134217728 := fun M h1 h2 => by
    have hM : bK3 M 6 2 3 2 ≤ bK3 68 6 2 3 2 := bK3_mono h1 (Nat.le_refl _) (Nat.le_refl _)
    have hM2 : bK3 68 6 2 3 2 ≤ 134217728 := by decide
    rw [hPP] at hval h2 ⊢
    exact IP.can (IP.nod_ok hok) (by rw [IP.pn]; exact hn6) h2 (by omega) (by omega) (by omega) hval
  have hPm : P.m ≤ 8 := by rw [hPP, IP.pm]; exact hm8
  have hPn : P.n ≤ 6 := by rw [hPP, IP.pn]; exact hn6
  have HINT := Lib.hid hint
  have HVAL := Lib.hid hval
  have HCAN := Lib.hid hCan
  have HPP := Lib.hid hPP
  obtain ⟨rfl, rfl⟩ : no = P.n ∧ mo = P.m := ⟨hno, hmo⟩
  clear hP0 hx3 HWOK hE2 hint hval hCan hPP hno hmo
  have hS := Solve_i _ P 60 6 68 134217728 60 U hP (by omega) (by omega) (by decide) (fun _ => HCAN.out 68 (by omega) (by omega)) (by omega) (by omega)
  obtain ⟨R, hR⟩ : ∃ R, R = solveR 60 P := ⟨_, rfl⟩
  rw [← hR] at hS
  have p0 := PB.c0
  have p1 := PB.c1
  go_wp2_with fail
  refine hS.mono ?_
  clear hS p0 p1
  cases R with
  | fail c =>
    rintro e w5 ⟨rfl, hx5⟩
    go_upto_region 7 with fail
    have RA := Box.new w5 32 #[.int .i64 0, .slice none 0 0, .pointer none]
    have hxr : Ext w5 (w5.alloc (.cells #[.int .i64 0, .slice none 0 0, .pointer none] 32)) := (Ext.refl w5).alloc _
    generalize (w5.alloc (.cells #[.int .i64 0, .slice none 0 0, .pointer none] 32)) = U2 at *
    obtain ⟨ra, hra⟩ : ∃ x, x = w5.heap.size := ⟨_, rfl⟩
    rw [← hra] at RA ⊢
    clear hra
    have hx6 := hx5.trans hxr
    have PB := PB.ext hx6
    have hP2 := hP.ext hx6
    have hE6 := hE3.trans hx6
    have p0 := PB.c0
    have p1 := PB.c1
    clear hx5 hxr hx6
    go_wp2_with fail
    refine (Solve_l _ P 134217728 _ hP2 (fun _ => (HCAN.out 68 (by omega) (by omega)).bnd)).mono ?_
    rintro e w7 ⟨q, A, n, c1, q', A', n', c1', Ax, nx, cx, Ay, ny, cy, kk, z, xs, ys, rfl, -, -, -, -, -, hres, hx7⟩
    have hkc : (kk = 17 ∧ c = 17) ∨ (kk = 18 ∧ c = 18) ∨ (kk = 0 ∧ c ≠ 0) := by
      have hk : kk = P.sol.err := by
        rcases hres with ⟨h, -⟩ | ⟨-, h, -⟩
        · rw [HVAL.out] at h; cases h
        · exact h
      have hc := solveR_fail hR.symm
      cases es : P.sol with
      | inf y =>
        rw [es] at hk
        have := solveR_inf (L := 60) (by omega) HVAL.out HINT.out es
        rw [this] at hR
        injection hR with hR
        exact .inl ⟨hk, hR⟩
      | unb =>
        rw [es] at hk
        have := solveR_unb (L := 60) (by omega) HVAL.out HINT.out es
        rw [this] at hR
        injection hR with hR
        exact .inr (.inl ⟨hk, hR⟩)
      | opt z' x' y' =>
        rw [es] at hk
        exact .inr (.inr ⟨hk, by omega⟩)
    clear hres hR p0 p1 hP hP2 PB
    have hnil : ∀ W, (binOp BinOp.eql 30 (.pointer none) (.pointer none)).run Try.prog W = .ok (.bool true) W := fun _ => by kernel_rfl
    go_upto_region 8 with fail
    have XA := Box.new w7 74 #[.bool q, .slice A n c1, .bool q', .slice A' n' c1', .slice Ax nx cx, .slice Ay ny cy]
    have hxs : Ext w7 (w7.alloc (.cells #[.bool q, .slice A n c1, .bool q', .slice A' n' c1', .slice Ax nx cx, .slice Ay ny cy] 74)) := (Ext.refl w7).alloc _
    generalize (w7.alloc (.cells #[.bool q, .slice A n c1, .bool q', .slice A' n' c1', .slice Ax nx cx, .slice Ay ny cy] 74)) = U3 at *
    have hx8 := hx7.trans hxs
    have RA := RA.ext hx8
    have hE8 := hE6.trans hx8
    have r0 := RA.c0
    have r1 := RA.c1
    have r2 : U3.cell? ⟨ra, 2, none⟩ = some (.pointer none) := RA.cell 2
    clear hx7 hxs hx8 XA
    rcases hkc with ⟨rfl, rfl⟩ | ⟨rfl, rfl⟩ | ⟨rfl, hc⟩
    · go_wp2_with fail
      go_ret
      exact ⟨rfl, hE8⟩
    · go_wp2_with fail
      go_ret
      exact ⟨rfl, hE8⟩
    · have e1 : (c != 0) = true := by simpa using hc
      have e2 : (c == 0) = false := by simpa using hc
      clear hc
      go_wp2_with fail
      go_ret
      exact ⟨rfl, hE8⟩
  | done vv x t =>
    rintro e w5 ⟨g, tb, h, rfl, hPt, -, -, -, hx5⟩
    obtain ⟨f1, f2, f3, f4, -, -, -, z0, a0, y0, hsol, hzv⟩ := solveR_done (by omega) hR.symm
    clear hR
    go_upto_region 7 with fail
    have RA := Box.new w5 32 #[.int .i64 vv, .slice (some ⟨g, 0, none⟩) P.n P.n, .pointer (some ⟨tb, 0, none⟩)]
    have hxr : Ext w5 (w5.alloc (.cells #[.int .i64 vv, .slice (some ⟨g, 0, none⟩) P.n P.n, .pointer (some ⟨tb, 0, none⟩)] 32)) := (Ext.refl w5).alloc _
    generalize (w5.alloc (.cells #[.int .i64 vv, .slice (some ⟨g, 0, none⟩) P.n P.n, .pointer (some ⟨tb, 0, none⟩)] 32)) = U2 at *
    obtain ⟨ra, hra⟩ : ∃ x, x = w5.heap.size := ⟨_, rfl⟩
    rw [← hra] at RA ⊢
    clear hra
    have hx6 := hx5.trans hxr
    have PB := PB.ext hx6
    have hP2 := hP.ext hx6
    have hE6 := hE3.trans hx6
    have hPt := hPt.ext hxr
    have p0 := PB.c0
    have p1 := PB.c1
    clear hx5 hxr hx6
    go_wp2_with fail
    refine (Solve_l _ P 134217728 _ hP2 (fun _ => (HCAN.out 68 (by omega) (by omega)).bnd)).mono ?_
    rintro e w7 ⟨q, A, n, c1, q', A', n', c1', Ax, nx, cx, Ay, ny, cy, kk, z, xs, ys, rfl, hzB, -, -, -, -, hres, hx7⟩
    obtain ⟨rfl, hz⟩ : kk = 0 ∧ z = z0 := by
      rcases hres with ⟨h, -⟩ | ⟨-, h1, h2, -⟩
      · rw [HVAL.out] at h; cases h
      · rw [hsol] at h1 h2; exact ⟨h1, h2⟩
    rw [← hz] at hzv
    clear hres p0 p1 hP hsol hz
    go_upto_region 8 with fail
    have XA := Box.new w7 74 #[.bool q, .slice A n c1, .bool q', .slice A' n' c1', .slice Ax nx cx, .slice Ay ny cy]
    have hxs : Ext w7 (w7.alloc (.cells #[.bool q, .slice A n c1, .bool q', .slice A' n' c1', .slice Ax nx cx, .slice Ay ny cy] 74)) := (Ext.refl w7).alloc _
    generalize (w7.alloc (.cells #[.bool q, .slice A n c1, .bool q', .slice A' n' c1', .slice Ax nx cx, .slice Ay ny cy] 74)) = U3 at *
    obtain ⟨xa, hxa⟩ : ∃ x, x = w7.heap.size := ⟨_, rfl⟩
    rw [← hxa] at XA ⊢
    clear hxa
    have hx8 := hx7.trans hxs
    have RA := RA.ext hx8
    have PB := PB.ext hx8
    have hP3 := hP2.ext hx8
    have hPt := hPt.ext hx8
    have hzB := hzB.ext hxs
    have hE8 := hE6.trans hx8
    have r1 := RA.c1
    clear hx7 hxs hx8 hP2 hE3 hE6
    go_wp2_with fail
    refine (rats_b g P.n x _ hPt f4 (by omega)).mono ?_
    rintro e w9 ⟨A9, c9, rfl, hRo, hx9⟩
    have hX9 := hRo.rats
    have RA := RA.ext hx9
    have PB := PB.ext hx9
    have XA := XA.ext hx9
    have hP9 := hP3.ext hx9
    have hzB := hzB.ext hx9
    have hE9 := hE8.trans hx9
    clear r1 hRo hx9 hPt hP3 hE8
    go_upto_region 11 with fail
    obtain ⟨vr1, vr2⟩ := fit_iff.1 f3
    have hC9 := HCAN.out 68 (by omega) (by omega)
    have HFc : ∀ W, Later w9 W → Calls Try.prog 31 #[.agg #[.slice Ao P.n co, .slice Ar P.m cr], .slice A9 P.n c9] W (ValPost W (.bool true)) := fun W hW => by
      have h := Feasible_b _ P A9 P.n c9 (fun j => ((x j : Int) : Rat)) 2 3 3 100 W (hP9.ext hW) (hX9.ext hW) hC9.coef hC9.right (fun j hj => QB_fit (f4 j hj)) (by omega) (by omega) (by omega) (by omega) (by omega)
      rw [feasB_iff.2 ⟨validB_iff.1 HVAL.out, rfl, f1⟩] at h
      exact h
    have HVc : ∀ W, Later w9 W → Calls Try.prog 32 #[.agg #[.slice Ao P.n co, .slice Ar P.m cr], .slice A9 P.n c9] W (RatBPost W (vv : Rat) 100) := fun W hW => by
      have h := Value_b _ P A9 P.n c9 (fun j => ((x j : Int) : Rat)) 2 3 100 W (hP9.ext hW) (hX9.ext hW) hC9.obj (fun j hj => QB_fit (f4 j hj)) (by omega) (by omega) (by omega) (by omega)
      rw [if_pos ⟨HVAL.out, rfl⟩] at h
      rw [← f2]
      exact h
    have HC1 : Hid (cmpQ (vv : Rat) (vv : Rat) = 0) := Lib.hid (by
      unfold cmpQ
      rw [if_neg (fun h => absurd h (Rat.not_lt.2 Rat.le_refl)), if_neg (fun h => absurd h (Rat.not_lt.2 Rat.le_refl))])
    obtain ⟨cz, hcz⟩ : ∃ c, c = cmpQ z (vv : Rat) := ⟨_, rfl⟩
    have e9 : decide (0 ≤ cz) = true := by
      rw [hcz]
      rcases cmpQ_cases z (vv : Rat) with ⟨h, -⟩ | ⟨-, h⟩ | ⟨-, h⟩
      · exact absurd hzv (Rat.not_le.2 h)
      · rw [h]; rfl
      · rw [h]; rfl
    have HC2 : Hid (cmpQ z (vv : Rat) = cz) := Lib.hid hcz.symm
    clear hcz hzv f1 f2 f3 f4 hC9
    have k0 : ∀ w', Later w9 w' → w'.cell? ⟨pb, 0, none⟩ = some (.slice Ao P.n co) := fun w' h => (PB.ext h).c0
    have k1 : ∀ w', Later w9 w' → w'.cell? ⟨pb, 1, none⟩ = some (.slice Ar P.m cr) := fun w' h => (PB.ext h).c1
    have k2 : ∀ w', Later w9 w' → w'.cell? ⟨ra, 0, none⟩ = some (.int .i64 vv) := fun w' h => (RA.ext h).c0
    have k3 : ∀ w', Later w9 w' → w'.cell? ⟨xa, 0, none⟩ = some (.bool q) := fun w' h => (XA.ext h).c0
    have k4 : ∀ w', Later w9 w' → w'.cell? ⟨xa, 1, none⟩ = some (.slice A n c1) := fun w' h => (XA.ext h).c1
    have k5 : ∀ w', Later w9 w' → w'.cell? ⟨xa, 2, none⟩ = some (.bool q') := fun w' h => (XA.ext h).cell 2
    have k6 : ∀ w', Later w9 w' → w'.cell? ⟨xa, 3, none⟩ = some (.slice A' n' c1') := fun w' h => (XA.ext h).cell 3
    have ks := Later.refl w9
    go_region_held3 (fun w' => Later w9 w') ((repeat (first | assumption | apply Later.drew | apply Later.drewN | apply Later.alloc | (refine Later.step ?_ (by assumption))))) (first
      | (go_at_call 31; (with_reducible refine (HFc _ (by first | assumption | (with_reducible exact Later.drew (by assumption)))).mono ?_); rintro e wk ⟨rfl, hxk⟩)
      | (go_at_call 32; (with_reducible refine (HVc _ (by first | assumption | (with_reducible exact Later.drew (by assumption)))).mono ?_); rintro e wk ⟨vk, rfl, hbk, hxk⟩; (obtain ⟨pk, Ak, nk, ck, pk', Ak', nk', ck', rfl⟩ := hbk.1.shape))
      | (go_at_call 20; (with_reducible refine (RatOf_b _ _ (by assumption) (by assumption)).mono ?_); rintro e wk ⟨vk, rfl, hbk, hxk⟩; (obtain ⟨pk, Ak, nk, ck, pk', Ak', nk', ck', rfl⟩ := hbk.1.shape))
      | (go_at_call 28; (with_reducible refine (RatCmp_b _ _ _ _ _ _ _ (RatB.ext (by assumption) (by repeat (first | (with_reducible exact Ext.refl _) | (with_reducible apply Ext.drew) | (with_reducible apply Ext.drewN) | (with_reducible refine Ext.trans ?_ (by assumption))))) (RatB.ext (by assumption) (by repeat (first | (with_reducible exact Ext.refl _) | (with_reducible apply Ext.drew) | (with_reducible apply Ext.drewN) | (with_reducible refine Ext.trans ?_ (by assumption))))) (by decide)).mono ?_); rintro e wk ⟨rfl, hxk⟩; (first | rw [HC1.out] | rw [HC2.out]))
      )
    all_goals (
      have hL9 : Ext w9 wk := by assumption
      clear k0 k1 k2 k3 k4 k5 k6 HFc HVc
      go_wp2_with fail
      go_ret
      exact ⟨rfl, hE9.trans hL9⟩)
end Go.Proofs.Ythafabkjidifeaa.Lp
