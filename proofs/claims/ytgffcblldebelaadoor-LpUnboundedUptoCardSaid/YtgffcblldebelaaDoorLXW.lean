/- The law LpUnbounded, walked. -/
import Derived.Test.YtgffcblldebelaaDoorLXU
set_option linter.unusedVariables false
set_option linter.unusedSimpArgs false
namespace Go.Proofs.YtgffcblldebelaaDoor.Lp
open Go.RowKit Go.Proofs.YtgffcblldebelaaDoor.Big Go.Proofs.YtgffcblldebelaaDoor.Rt

theorem MkV.src {w : World} {base : Nat} {v : Value} {P : PL} {a : MA} (h : MkV w base v P.toP a) : 0 < P.rows.length → ∃ c off, a.Ar = some ⟨c, off, none⟩ ∧ PRows w (fun i => w.cell? ⟨c, off + i, none⟩) P.rows := fun hm =>
  ⟨a.br, 0, (h.blk hm).1, by
    have := MRows.prows (P := P) h.rows
    simpa using this⟩
theorem div_pos' {a b : Rat} (ha : 0 < a) (hb : 0 < b) : 0 < a / b := by
  have h := div_mul' (a := a) (b := b) (by grind)
  rcases (Rat.le_total : a / b ≤ 0 ∨ 0 ≤ a / b) with h1 | h1
  · have h2 := Rat.mul_le_mul_of_nonneg_right h1 (Rat.le_of_lt hb)
    rw [h] at h2; grind
  · have : a / b ≠ 0 := fun e => by rw [e] at h; grind
    grind
theorem number5 (n : Int) (w : World) (hn : in32 n) : Calls Tryd.prog 23 #[.int .i32 n, .int .u8 5] w (RatBPost w (qn n 5) 2) := number_b n 5 w hn (by decide)
set_option maxHeartbeats 4000000 in
set_option maxRecDepth 100000 in
theorem unbounded_any (v : Value) (ip : IP) (mo : Int) (w : World) (h : IPV w v ip) (hok : ip.ok) (hmo : 0 ≤ mo ∧ mo ≤ 65535) (htab : TabOK w) : Calls Tryd.prog 4 #[v, .int .u16 mo] w (ValPost w (.bool true)) := by
  have h0 := h
  obtain ⟨Ao, co, Ar, cr, rfl, -, -, -, -⟩ := h0
  obtain ⟨n0, hn0⟩ : ∃ n, n = ip.obj.length := ⟨_, rfl⟩
  obtain ⟨m0, hm0⟩ : ∃ n, n = ip.rows.length := ⟨_, rfl⟩
  obtain ⟨d0, hd0⟩ : ∃ n, n = ip.den := ⟨_, rfl⟩
  have HN0 := Lib.hid hn0
  have HM0 := Lib.hid hm0
  rw [← hn0, ← hm0, ← hd0] at h ⊢
  have HOK := Lib.hid hok
  clear hn0 hm0 hd0 hok
  have B := Box.new w 25 #[.slice Ao n0 co, .slice Ar m0 cr, .int .u8 (d0 : Int)]
  have hE0 : Ext w (w.alloc (.cells #[.slice Ao n0 co, .slice Ar m0 cr, .int .u8 (d0 : Int)] 25)) := (Ext.refl w).alloc _
  go_enter Tryd.func4, Tryd.ntmps4
  go_upto_region 1 with fail
  generalize (w.alloc (.cells #[.slice Ao n0 co, .slice Ar m0 cr, .int .u8 (d0 : Int)] 25)) = V at *
  obtain ⟨ab, hab⟩ : ∃ x, x = w.heap.size := ⟨_, rfl⟩
  rw [← hab] at B ⊢
  clear hab
  go_wp2_with fail
  refine (awake_b _ (htab.ext hE0)).mono ?_
  rintro e w1 ⟨rfl, hx1⟩
  have hE1 := hE0.trans hx1
  have B := B.ext hx1
  have c0 := B.c0
  have c1 := B.c1
  have c2 := B.c2
  clear hE0 hx1
  go_wp2_with fail
  refine (fits_b _ ip _ (h.ext hE1)).mono ?_
  rintro e w2 ⟨rfl, hx2⟩
  have hE2 := hE1.trans hx2
  have B := B.ext hx2
  clear c0 c1 c2 hE1 hx2
  obtain ⟨F, hF⟩ : ∃ F, F = fitB ip := ⟨_, rfl⟩
  rw [← hF]
  have HFI := Lib.hid hF
  clear hF
  cases F with
  | false =>
    go_wp2_with fail
    refine (awake_b _ (htab.ext hE2)).mono ?_
    rintro e w3 ⟨rfl, hx3⟩
    go_wp2_with fail
    go_ret
    exact ⟨rfl, hE2.trans hx3⟩
  | true =>
  by_cases hz0 : n0 = 0
  · have e0 : ((n0 : Int) == 0) = true := by simp; omega
    have c0 := B.c0
    go_wp2_with fail
    refine (awake_b _ (htab.ext hE2)).mono ?_
    rintro e w3 ⟨rfl, hx3⟩
    go_wp2_with fail
    go_ret
    exact ⟨rfl, hE2.trans hx3⟩
  · have e0 : ((n0 : Int) == 0) = false := by simp; omega
    have c0 := B.c0
    have c1 := B.c1
    have c2 := B.c2
    go_wp2_with fail
    refine (Make_b _ ip _ (h.ext hE2) HOK.out).mono ?_
    rintro e w3 ⟨v3, a, rfl, hM, hx3⟩
    have hP := hM.prob
    have hv3 := hM.val
    subst hv3
    have hE3 := hE2.trans hx3
    have hfit := fitB_iff.1 HFI.out.symm
    have HPN : Hid (ip.pl.toP.n ≤ 8) := Lib.hid (by rw [IP.pn]; exact hfit.1)
    have HPM : Hid (ip.pl.toP.m ≤ 8) := Lib.hid (by rw [IP.pm]; exact hfit.2)
    have HBD : Hid (validB ip.pl.toP = true → Bnd ip.pl.toP 16000000) := Lib.hid (fun hv => IP.bnd HOK.out HPN.out (by have := HPM.out; omega) hv)
    have B := B.ext hx3
    clear hE2 hx3 c0 c1 c2 hfit
    obtain ⟨p, hp⟩ : ∃ p, p = ip.pl.toP := ⟨_, rfl⟩
    have HPP := Lib.hid hp
    have HCF : Hid ((∀ i, i < p.m → ∀ j, j < p.n → QB 2 (p.coef i j)) ∧ (∀ i, i < p.m → QB 2 (p.right i)) ∧ (∀ j, j < p.n → QB 2 (p.obj j))) := Lib.hid (by rw [hp]; exact ⟨fun i hi j _ => IP.coef_b HOK.out hi j, fun i hi => IP.right_b HOK.out hi, fun j _ => IP.obj_b HOK.out j⟩)
    rw [← hp] at hP hM HPN HPM HBD ⊢
    clear hp
    go_upto_region 4 with fail
    have PB := Box.new w3 31 #[.slice a.Ao p.n a.co, .slice a.Ar p.m a.cr]
    have hx4 : Ext w3 (w3.alloc (.cells #[.slice a.Ao p.n a.co, .slice a.Ar p.m a.cr] 31)) := (Ext.refl w3).alloc _
    generalize (w3.alloc (.cells #[.slice a.Ao p.n a.co, .slice a.Ar p.m a.cr] 31)) = U at *
    obtain ⟨qb, hqb⟩ : ∃ x, x = w3.heap.size := ⟨_, rfl⟩
    rw [← hqb] at PB ⊢
    clear hqb
    have hP := hP.ext hx4
    have hM := hM.ext hx4
    have B := B.ext hx4
    have hE4 := hE3.trans hx4
    have c0 := PB.c0
    have c1 := PB.c1
    clear hE3 hx4
    go_wp2_with fail
    refine (Solve_l _ p 16000000 _ hP HBD.out).mono ?_
    rintro e w5 ⟨q, A, n, c, q', A', n', c', Ax, nx, cx, Ay, ny, cy, k, z, xs, ys, rfl, hz, hX, hY, hbx, hby, hres, hx5⟩
    have HRES := Lib.hid hres
    have HBX := Lib.hid hbx
    have HBY := Lib.hid hby
    have hE5 := hE4.trans hx5
    have hP5 := hP.ext hx5
    have hM5 := hM.ext hx5
    have PB5 := PB.ext hx5
    have B5 := B.ext hx5
    clear hbx hby hres hE4 hx5 hP PB c0 c1 hM B
    go_upto_region 5 with fail
    have SB := Box.new w5 39 #[.bool q, .slice A n c, .bool q', .slice A' n' c', .slice Ax nx cx, .slice Ay ny cy]
    have hx6 : Ext w5 (w5.alloc (.cells #[.bool q, .slice A n c, .bool q', .slice A' n' c', .slice Ax nx cx, .slice Ay ny cy] 39)) := (Ext.refl w5).alloc _
    generalize (w5.alloc (.cells #[.bool q, .slice A n c, .bool q', .slice A' n' c', .slice Ax nx cx, .slice Ay ny cy] 39)) = U6 at *
    obtain ⟨sb, hsb⟩ : ∃ x, x = w5.heap.size := ⟨_, rfl⟩
    rw [← hsb] at SB ⊢
    clear hsb
    have hE6 := hE5.trans hx6
    have hP6 := hP5.ext hx6
    have hM6 := hM5.ext hx6
    have PB6 := PB5.ext hx6
    have B6 := B5.ext hx6
    have hz := hz.ext hx6
    have hX := hX.ext hx6
    have hY := hY.ext hx6
    have c0 := PB6.c0
    have c1 := PB6.c1
    clear hE5 hx6 hP5 PB5 hM5 B5
    have hk4 : (k = 0 ∧ ip.pl.valid = true ∧ z = ip.pl.val ∧ ip.pl.err = 0 ∧ QB 1300000 z) ∨ (k = 18 ∧ ip.pl.valid = true ∧ ip.pl.err = 18) ∨ k = 17 ∨ k = 3 := by
      have hres := HRES.out
      rw [HPP.out] at hres
      rcases hres.pl with ⟨hv, hk, hzv⟩ | ⟨hv, hk, -⟩
      · have hrg := (PL.is hv).range
        rcases hrg with e | e | e
        · refine .inl ⟨hk.trans e, hv, hzv, e, ?_⟩
          rcases hres with ⟨h1, _⟩ | ⟨h1, -, -, ⟨-, -, -, hs⟩ | ⟨h2, -⟩⟩
          · rw [(validB_pl _).2 hv] at h1; cases h1
          · exact IP.value_b HOK.out (by rw [← HPP.out]; exact HPN.out) (by rw [← HPP.out]; exact HPM.out) h1 hs
          · exact absurd (hk.trans e) h2
        · exact .inr (.inr (.inl (hk.trans e)))
        · exact .inr (.inl ⟨hk.trans e, hv, e⟩)
      · exact .inr (.inr (.inr hk))
    have hRL : ip.pl.rows.length ≤ 8 := by have := HPM.out; rw [HPP.out] at this; exact this
    have hOL : ip.pl.obj.length ≤ 8 := by have := HPN.out; rw [HPP.out] at this; exact this
    have HW : Hid (∀ w', Ext U6 w' → ∀ v b Kb, RatB w' v b Kb → QB 1300003 b → ip.pl.valid = true → Calls Tryd.prog 20 #[v, .pointer (some ⟨qb, 0, none⟩)] w' (ValPost w' (.int .i64 (ip.pl.want b).err))) := Lib.hid (fun w' hx v b Kb hb hq hv => by
      have hM' := hM6.ext hx
      have PB' := PB6.ext hx
      rw [HPP.out] at hM' PB'
      exact want_b ip.pl a.Ao a.co a.Ar a.cr qb v b Kb 134217728 w' PB' hM'.obj.rats hM'.src hOL hRL hb (want_bnd HOK.out hOL hRL hv hq) ((validB_pl _).2 (want_valid hv (by omega))))
    have HRL : Hid (ip.pl.rows.length < 1000) := Lib.hid (by omega)
    have HZQ := Lib.hid hz
    clear HRES hX hY HBX HBY hP6 hM6 PB6 B6 c0 c1 hRL hOL hz HFI h e0 hz0 hM
    have hwr : IntKind.i64.wrap mo = mo := IntWalk.i64_in _ (by omega)
    have hmoi : in32 (1 + mo) := ⟨by omega, by omega⟩
    have hwr2 : IntKind.i32.wrap mo = mo := by rw [IntKind.wrap_i32]; omega
    have hwr3 : IntKind.i32.wrap (1 + mo) = 1 + mo := by rw [IntKind.wrap_i32]; omega
    rcases hk4 with ⟨rfl, hv, hzv, he, hzq⟩ | ⟨rfl, hv, he⟩ | rfl | rfl
    · have HV := Lib.hid hv
      have HE0 := Lib.hid he
      have HZV := Lib.hid hzv
      obtain ⟨Kz, hKz, hzb⟩ : ∃ K, K ≤ 1300000 ∧ QB K z := ⟨_, Nat.le_refl _, hzq⟩
      have HZB := Lib.hid hzb
      clear hv he hzv hzq hzb
      go_upto_region 10 with fail
      have hS : RatB U6 _ z Kz := ⟨HZQ.out.1, HZB.out⟩
      have k0 : ∀ w', Later U6 w' → w'.cell? ⟨sb, 0, none⟩ = some _ := fun w' h => (SB.ext h).c0
      have k1 : ∀ w', Later U6 w' → w'.cell? ⟨sb, 1, none⟩ = some _ := fun w' h => (SB.ext h).c1
      have k2 : ∀ w', Later U6 w' → w'.cell? ⟨sb, 2, none⟩ = some _ := fun w' h => (SB.ext h).c2
      have k3 : ∀ w', Later U6 w' → w'.cell? ⟨sb, 3, none⟩ = some _ := fun w' h => (SB.ext h).c3
      have ks := Later.refl U6
      go_cut [9] (fun v wx => ∃ (mb : Nat) (x1 x2 : Bool) (X1 X2 : Option Addr) (u1 u2 u3 u4 : Nat), v = .pointer (some ⟨mb, 0, none⟩) ∧ Box wx mb 37 #[.bool x1, .slice X1 u1 u2, .bool x2, .slice X2 u3 u4] ∧ RatB wx (.agg #[.bool x1, .slice X1 u1 u2, .bool x2, .slice X2 u3 u4]) (z + qn (1 + mo) 5) (Kz + 2 + 1) ∧ Ext U6 wx)
      case first =>
        go_region_held3 (fun w' => Later U6 w') ((repeat (first | assumption | apply Later.drew | apply Later.drewN | apply Later.alloc | (refine Later.set ?_ (by first | exact Nat.le_refl _ | exact Nat.le_succ _ | exact Later.size (by assumption) | exact Nat.le_succ_of_le (Later.size (by assumption))) _) | (refine Later.step ?_ (by assumption))))) (first
          | (go_at_call 23; (with_reducible refine (number5 (1 + mo) _ hmoi).mono ?_); rintro e w7 ⟨v7, rfl, hb7, hx7⟩; (obtain ⟨p7, A7, n7, c7, p7', A7', n7', c7', rfl⟩ := hb7.1.shape); (have hS7 := Later.step (by assumption) hx7); (try (have bq1 := boxAd' hx7)); (try (have bq1 := boxA' hx7)))
          | (go_at_call 22; (with_reducible refine (RatAdd_b _ _ _ _ _ _ _ (RatB.ext hS (by repeat (first | (with_reducible exact Ext.refl _) | (with_reducible apply Ext.drew) | (with_reducible apply Ext.drewN) | (with_reducible apply Ext.alloc) | (with_reducible refine Ext.trans ?_ (by assumption))))) (RatB.ext hb7 (by repeat (first | (with_reducible exact Ext.refl _) | (with_reducible apply Ext.drew) | (with_reducible apply Ext.drewN) | (with_reducible apply Ext.alloc) | (with_reducible refine Ext.trans ?_ (by assumption))))) (by omega)).mono ?_); rintro e w8 ⟨v8, rfl, hb8, hx8⟩; (obtain ⟨p8, A8, n8, c8, p8', A8', n8', c8', rfl⟩ := hb8.1.shape); (have hSk := Later.step (by assumption) hx8); (try (have bq := boxAd' hx8)); (try (have bq := boxA' hx8)); (try (have bq := Box.ext bq1 hx8)); (try (have q0 := bq.c0; have q1 := bq.c1; have q2 := bq.c2; have q3 := bq.c3; have f0 := bq.frozen 0; have f1 := bq.frozen 1; have f2 := bq.frozen 2; have f3 := bq.frozen 3)))
          )
        all_goals (go_wp2_with fail; go_meet)
        all_goals first
          | exact ⟨_, _, _, _, _, _, _, _, _, rfl, bq.set4 _ _ _ _, ⟨(RatV.put hb8.1 bq).1, hb8.2⟩, Ext.set (Ext.set (Ext.set (Ext.set (show Ext U6 _ from hSk) (by first | exact Nat.le_refl _ | exact Later.size (by assumption)) _) (by first | exact Nat.le_refl _ | exact Later.size (by assumption)) _) (by first | exact Nat.le_refl _ | exact Later.size (by assumption)) _) (by first | exact Nat.le_refl _ | exact Later.size (by assumption)) _⟩
          | exact ⟨_, _, _, _, _, _, _, _, _, rfl, Box.new _ _ _, hb8.ext ((Ext.refl _).alloc _), Ext.alloc (show Ext U6 _ from hSk) _⟩
      case rest =>
        obtain ⟨mb, x1, x2, X1, X2, u1, u2, u3, u4, rfl, MB, hmr, hx9⟩ := hcut
        rename_i hK
        refine hK _ _ ?_
        clear hK k0 k1 k2 k3 ks
        have SB9 := SB.ext hx9
        have hz9 := hS.ext hx9
        have s0 := SB9.c0
        have s1 := SB9.c1
        have s2 := SB9.c2
        have s3 := SB9.c3
        go_wp2_with fail
        refine (HW.out _ hx9 _ _ _ hz9 (QB_mono (by omega) HZB.out) HV.out).mono ?_
        rintro e w10 ⟨rfl, hx10⟩
        rw [HZV.out, want_opt HV.out HRL.out HE0.out]
        have MB10 := MB.ext hx10
        have m0 := MB10.c0
        have m1 := MB10.c1
        have m2 := MB10.c2
        have m3 := MB10.c3
        clear s0 s1 s2 s3
        go_wp2_with fail
        refine (HW.out _ (hx9.trans hx10) _ _ _ (hmr.ext hx10) (QB_mono (by omega) hmr.2) HV.out).mono ?_
        rintro e w11 ⟨rfl, hx11⟩
        have hpos : 0 < qn (1 + mo) 5 := by
          unfold qn
          rw [Rat.divInt_eq_div]
          have h1 : (0 : Rat) < ((1 + mo : Int) : Rat) := Rat.intCast_pos.2 (by omega)
          have h2 : (0 : Rat) < ((1 + ((5 % 6 : Nat) : Int) : Int) : Rat) := by decide
          exact div_pos' h1 h2
        rw [want_more HV.out HRL.out HE0.out (by rw [HZV.out]; grind)]
        go_wp2_with fail
        go_ret
        exact ⟨rfl, hE6.trans (hx9.trans (hx10.trans hx11))⟩
    · have HV := Lib.hid hv
      have HE0 := Lib.hid he
      clear hv he
      go_wp2_with fail
      refine (RatOf_b mo _ (by omega) (by omega)).mono ?_
      rintro e w7 ⟨v7, rfl, hb7, hx7⟩
      go_wp2_with fail
      refine (HW.out _ hx7 _ _ _ hb7 (QB_mono (by omega) hb7.2) HV.out).mono ?_
      rintro e w8 ⟨rfl, hx8⟩
      rw [want_unb HV.out HRL.out HE0.out]
      go_wp2_with fail
      go_ret
      exact ⟨rfl, (hE6.trans hx7).trans hx8⟩
    · go_wp2_with fail
      go_ret
      exact ⟨rfl, hE6⟩
    · go_wp2_with fail
      go_ret
      exact ⟨rfl, hE6⟩
end Go.Proofs.YtgffcblldebelaaDoor.Lp
