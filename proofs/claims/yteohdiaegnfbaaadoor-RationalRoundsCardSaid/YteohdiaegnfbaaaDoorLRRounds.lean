/- Walk: the law RationalRounds. -/
import Derived.Test.YteohdiaegnfbaaaDoorT10
set_option linter.unusedVariables false
set_option linter.unusedSimpArgs false
namespace Go.Proofs.YteohdiaegnfbaaaDoor.Rt
open Go.RowKit Go.Proofs.YteohdiaegnfbaaaDoor.Big
open Go.Lib (itoa)
attribute [local go_sem] Go.World.cell?_alloc_some Go.RowKit.frozen?_alloc_cells

theorem RatParse_weak (s : ByteArray) (w : World) (hmx : MxOK w) : Calls Tryd.prog 12 #[.string s] w (fun e w' => ∃ p A n c p' A' n' c' er, e = .returned (.tuple #[.agg #[.bool p, .slice A n c, .bool p', .slice A' n' c'], .int .i64 er]) ∧ Ext w w') := by
  by_cases h : 4096 < s.size
  · exact (RatParse_full s w h).mono fun e w' ⟨h1, h2⟩ => ⟨_, _, _, _, _, _, _, _, _, h1, h2⟩
  · refine (RatParse_b s 4096 w (by omega) (by omega) (by decide) (by decide) hmx).mono ?_
    rintro e w' ⟨v, X, h1, h2, _, h3⟩
    obtain ⟨p, A, n, c, p', A', n', c', rfl⟩ := h2.1.shape
    exact ⟨_, _, _, _, _, _, _, _, _, h1, h3⟩
theorem floor_le (x : Rat) : ((floorZ x : Int) : Rat) ≤ x := by
  rw [Rat.le_iff]
  show floorZ x * (x.den : Int) ≤ x.num * ((1 : Nat) : Int)
  unfold floorZ
  have := Int.ediv_mul_le x.num (show (x.den : Int) ≠ 0 by have := x.den_pos; omega)
  simpa using this
theorem ceil_ge (x : Rat) : x ≤ ((ceilZ x : Int) : Rat) := by
  rw [Rat.le_iff]
  show x.num * ((1 : Nat) : Int) ≤ ceilZ x * (x.den : Int)
  unfold ceilZ
  have := Int.ediv_mul_le (-x.num) (show (x.den : Int) ≠ 0 by have := x.den_pos; omega)
  rw [Int.neg_mul]
  omega
theorem cmpQ_le {x y : Rat} (h : x ≤ y) : cmpQ x y ≤ 0 := by
  rcases cmpQ_cases x y with ⟨h', e⟩ | ⟨h', e⟩ | ⟨h', e⟩ <;> rw [e]
  · decide
  · decide
  · exact absurd h (Rat.not_le.2 h')
theorem ceil_neg (x : Rat) : -(floorZ (-x)) = ceilZ x := by unfold floorZ ceilZ; rw [Rat.neg_num, Rat.neg_den]
theorem rounds_law (x : Rat) : (x.den = 1 → ceilZ x - floorZ x = 0) ∧ (x.den ≠ 1 → ceilZ x - floorZ x = 1) := by
  have hd := x.den_pos
  have h1 := Int.mul_ediv_add_emod x.num x.den
  have h2 := Int.mul_ediv_add_emod (-x.num) x.den
  have h3 := Int.emod_nonneg x.num (show (x.den : Int) ≠ 0 by omega)
  have h4 := Int.emod_lt_of_pos x.num (show (0 : Int) < x.den by omega)
  have h5 := Int.emod_nonneg (-x.num) (show (x.den : Int) ≠ 0 by omega)
  have h6 := Int.emod_lt_of_pos (-x.num) (show (0 : Int) < x.den by omega)
  refine ⟨fun h => ?_, fun h => ?_⟩
  · unfold ceilZ floorZ
    rw [h]; simp
  · have hne : x.num % (x.den : Int) ≠ 0 := by
      intro h0
      have hdv : (x.den : Int) ∣ x.num := Int.dvd_of_emod_eq_zero h0
      have hn : x.den ∣ x.num.natAbs := by
        have := Int.natAbs_dvd_natAbs.2 hdv
        rwa [Int.natAbs_natCast] at this
      have hg := x.reduced
      unfold Nat.Coprime at hg
      rw [Nat.gcd_eq_right hn] at hg
      exact h hg
    have e : (x.den : Int) * (ceilZ x - floorZ x) = (-x.num) % x.den + x.num % x.den := by
      unfold ceilZ floorZ
      rw [Int.mul_sub, Int.mul_neg]; omega
    have hlo : 0 < ceilZ x - floorZ x := by
      refine Int.lt_of_mul_lt_mul_left (a := (x.den : Int)) ?_ (by omega)
      rw [e]; omega
    have hhi : ceilZ x - floorZ x < 2 := by
      refine Int.lt_of_mul_lt_mul_left (a := (x.den : Int)) ?_ (by omega)
      rw [e]; omega
    omega

set_option maxRecDepth 100000 in
set_option maxHeartbeats 16000000 in
theorem rounds_any (s : ByteArray) (w : World) (htab : TabOK w) (hmx : MxOK w) :
    Calls Tryd.prog 6 #[.string s] w (fun e w' => e = .returned (.bool true) ∧ Ext w w') := by
  go_enter Tryd.func6, Tryd.ntmps6
  go_wp2_with fail
  refine (RatAwake_any _ htab hmx).mono ?_
  rintro e w1 ⟨rfl, hE⟩
  by_cases hs : s.size ≤ 200
  case neg =>
    have e1 : decide ((200 : Int) < s.size) = true := by simp; omega
    clear hs
    go_wp2_with fail
    refine (RatParse_weak s _ (hmx.ext hE)).mono ?_
    rintro e w5 ⟨p, A, n, c, p', A', n', c', er, rfl, hx5⟩
    go_wp2_with fail
    refine (long_any s _).mono ?_
    rintro e w6 ⟨rfl, rfl⟩
    go_wp2_with fail
    go_ret
    exact ⟨rfl, (hE.trans hx5).alloc _⟩
  case pos =>
    have e1 : decide ((200 : Int) < s.size) = false := by simp; omega
    go_wp2_with fail
    refine (RatParse_b s 200 _ (by omega) (by omega) (by decide) (by decide) (hmx.ext hE)).mono ?_
    rintro e w5 ⟨v5, X, rfl, h5, hXv, hx5⟩
    obtain ⟨p5, A5, n5, c5, p5', A5', n5', c5', rfl⟩ := h5.1.shape
    obtain ⟨o2, ho2⟩ : ∃ o, o = isRat s.data.toList := ⟨_, rfl⟩
    obtain ⟨es, hes⟩ : ∃ es : Int, es = (if isRat s.data.toList = true then 0 else 3) := ⟨_, rfl⟩
    rw [← hes]
    rw [← ho2] at hes hXv
    have hde : (es != 0) = !o2 := by rw [hes]; cases o2 <;> rfl
    clear ho2 hXv hes hs
    go_upto_region 4 with fail
    have hy5 : Ext w5 (w5.alloc (.cells #[.bool p5, .slice A5 n5 c5, .bool p5', .slice A5' n5' c5'] 29)) := (Ext.refl w5).alloc _
    have B3 := Box.new w5 29 #[.bool p5, .slice A5 n5 c5, .bool p5', .slice A5' n5' c5']
    have hX := h5.ext hy5
    have hxy := hx5.trans hy5
    have hE := hE.trans hxy
    generalize (w5.alloc (.cells #[.bool p5, .slice A5 n5 c5, .bool p5', .slice A5' n5' c5'] 29)) = W at *
    clear hx5 hy5 hxy h5
    go_wp2_with fail
    refine (long_any s _).mono ?_
    rintro e w6 ⟨rfl, rfl⟩
    cases o2
    case false =>
      go_wp2_with fail
      go_ret
      exact ⟨rfl, hE⟩
    go_wp2_with fail
    refine (Of_b 1 _ (by decide) (by decide)).mono ?_
    rintro e w6 ⟨v6, rfl, h6, hx6⟩
    obtain ⟨p6, A6, n6, c6, rfl⟩ := h6.1.shape
    go_upto_region 7 with fail
    have hy6 : Ext w6 (w6.alloc (.cells #[.bool p6, .slice A6 n6 c6] 27)) := (Ext.refl w6).alloc _
    have B5 := Box.new w6 27 #[.bool p6, .slice A6 n6 c6]
    have hO := h6.ext hy6
    have hxy := hx6.trans hy6
    have hX := hX.ext hxy
    have B3 := B3.ext hxy
    have hE := hE.trans hxy
    generalize (w6.alloc (.cells #[.bool p6, .slice A6 n6 c6] 27)) = W1 at *
    clear hx6 hy6 hxy h6
    have k30 : ∀ w', Later W1 w' → w'.cell? ⟨_, 0, none⟩ = some _ := fun w' h => (B3.ext h).c0
    have k31 : ∀ w', Later W1 w' → w'.cell? ⟨_, 1, none⟩ = some _ := fun w' h => (B3.ext h).c1
    have k32 : ∀ w', Later W1 w' → w'.cell? ⟨_, 2, none⟩ = some _ := fun w' h => (B3.ext h).c2
    have k33 : ∀ w', Later W1 w' → w'.cell? ⟨_, 3, none⟩ = some _ := fun w' h => (B3.ext h).c3
    have k50 : ∀ w', Later W1 w' → w'.cell? ⟨w6.heap.size, 0, none⟩ = some (.bool p6) := fun w' h => (B5.ext h).c0
    have k51 : ∀ w', Later W1 w' → w'.cell? ⟨w6.heap.size, 1, none⟩ = some (.slice A6 n6 c6) := fun w' h => (B5.ext h).c1
    have hS0 := Later.refl W1
    go_cut [6, 7] (fun v er wx => ∃ (b n c n' c' : Nat) (p p' : Bool) (A A' : Option Addr), v = .pointer (some ⟨b, 0, none⟩) ∧ er = .int .i64 0 ∧ Box wx b 29 #[.bool p, .slice A n c, .bool p', .slice A' n' c'] ∧ RatB wx (.agg #[.bool p, .slice A n c, .bool p', .slice A' n' c']) (((floorZ X : Int)) : Rat) 201 ∧ Later W1 wx)
    case first =>
      go_region_held3 (fun w' => Later W1 w') ((repeat (first | assumption | apply Later.drew | apply Later.drewN | apply Later.alloc | (refine Later.set ?_ (by first | exact Nat.le_refl _ | exact Nat.le_succ _ | exact Later.size (by assumption) | exact Nat.le_succ_of_le (Later.size (by assumption))) _) | (refine Later.step ?_ (by assumption))))) (first
        | (go_at_call 33; (with_reducible refine (RatFloor_b _ _ _ _ (hX.ext (by repeat (first | (with_reducible exact Ext.refl _) | (with_reducible apply Ext.drew) | (with_reducible apply Ext.drewN) | (with_reducible apply Ext.alloc) | (with_reducible refine Ext.trans ?_ (by assumption))))) (by decide)).mono ?_); rintro e wa ⟨va, rfl, ha, hxa⟩; (obtain ⟨pa, Aa, na, ca, rfl⟩ := ha.1.shape); (have hSa := Later.step (by assumption) hxa); (try (have e1 := boxAd hxa; have e11 := e1.c0; have e12 := e1.c1; have e13 := e1.c2; have e14 := e1.c3; have e15 := e1.frozen 0; have e16 := e1.frozen 1; have e17 := e1.frozen 2; have e18 := e1.frozen 3)))
        | (go_at_call 23; (with_reducible refine (Make_b _ _ _ _ _ _ _ (ha.ext (by repeat (first | (with_reducible exact Ext.refl _) | (with_reducible apply Ext.drew) | (with_reducible apply Ext.drewN) | (with_reducible apply Ext.alloc) | (with_reducible refine Ext.trans ?_ (by assumption))))) (hO.ext (by repeat (first | (with_reducible exact Ext.refl _) | (with_reducible apply Ext.drew) | (with_reducible apply Ext.drewN) | (with_reducible apply Ext.alloc) | (with_reducible refine Ext.trans ?_ (by assumption))))) (by decide) (by decide)).mono ?_); rintro e wb ⟨vb, rfl, hb, hxb⟩; rw [divInt_int] at hb; (obtain ⟨pb, Ab, nb, cb, pb', Ab', nb', cb', rfl⟩ := hb.1.shape); (have hSb := Later.step (by assumption) hxb); (try (have g1 := boxA hxb; have g11 := g1.c0; have g12 := g1.c1; have g13 := g1.c2; have g14 := g1.c3; have g15 := g1.frozen 0; have g16 := g1.frozen 1; have g17 := g1.frozen 2; have g18 := g1.frozen 3)); (try (have g1 := Box.ext e1 hxb; have g11 := g1.c0; have g12 := g1.c1; have g13 := g1.c2; have g14 := g1.c3; have g15 := g1.frozen 0; have g16 := g1.frozen 1; have g17 := g1.frozen 2; have g18 := g1.frozen 3)))
        )
      all_goals (go_wp2_with fail; go_meet)
      all_goals first
        | (with_reducible exact ⟨_, _, _, _, _, _, _, _, _, rfl, rfl, Box.new _ _ _, hb.ext ((Ext.refl _).alloc _), Later.alloc hSb _⟩)
        | exact ⟨_, _, _, _, _, _, _, _, _, rfl, rfl, g1.set4 _ _ _ _, hb.far4 g1, Ext.set4 (show Ext W1 _ from hSb) (by first | exact Nat.le_refl _ | exact Later.size hSa) _ _ _ _⟩
    case rest =>
      obtain ⟨b, n, c, n', c', p, p', A, A', rfl, rfl, B6, hLO, hLr⟩ := hcut
      have hMr : Ext W1 wc := hLr
      have hX := hX.ext hMr
      have hO := hO.ext hMr
      have B3 := B3.ext hMr
      have B5 := B5.ext hMr
      have hE := hE.trans hMr
      clear k30 k31 k32 k33 k50 k51 hS0 hMr hLr
      have k30 : ∀ w', Later wc w' → w'.cell? ⟨_, 0, none⟩ = some _ := fun w' h => (B3.ext h).c0
      have k31 : ∀ w', Later wc w' → w'.cell? ⟨_, 1, none⟩ = some _ := fun w' h => (B3.ext h).c1
      have k32 : ∀ w', Later wc w' → w'.cell? ⟨_, 2, none⟩ = some _ := fun w' h => (B3.ext h).c2
      have k33 : ∀ w', Later wc w' → w'.cell? ⟨_, 3, none⟩ = some _ := fun w' h => (B3.ext h).c3
      have k50 : ∀ w', Later wc w' → w'.cell? ⟨w6.heap.size, 0, none⟩ = some (.bool p6) := fun w' h => (B5.ext h).c0
      have k51 : ∀ w', Later wc w' → w'.cell? ⟨w6.heap.size, 1, none⟩ = some (.slice A6 n6 c6) := fun w' h => (B5.ext h).c1
      have hS0 := Later.refl wc
      go_upto_region 8 with fail
      generalize wc = W2 at *
      go_cut [8, 9] (fun v er wx => ∃ (b n c n' c' : Nat) (p p' : Bool) (A A' : Option Addr), v = .pointer (some ⟨b, 0, none⟩) ∧ er = .int .i64 0 ∧ Box wx b 29 #[.bool p, .slice A n c, .bool p', .slice A' n' c'] ∧ RatB wx (.agg #[.bool p, .slice A n c, .bool p', .slice A' n' c']) (((ceilZ X : Int)) : Rat) 201 ∧ Later W2 wx)
      case first =>
        go_region_held3 (fun w' => Later W2 w') ((repeat (first | assumption | apply Later.drew | apply Later.drewN | apply Later.alloc | (refine Later.set ?_ (by first | exact Nat.le_refl _ | exact Nat.le_succ _ | exact Later.size (by assumption) | exact Nat.le_succ_of_le (Later.size (by assumption))) _) | (refine Later.step ?_ (by assumption))))) (first
          | (go_at_call 34; (with_reducible refine (RatCeil_b _ _ _ _ (hX.ext (by repeat (first | (with_reducible exact Ext.refl _) | (with_reducible apply Ext.drew) | (with_reducible apply Ext.drewN) | (with_reducible apply Ext.alloc) | (with_reducible refine Ext.trans ?_ (by assumption))))) (by decide)).mono ?_); rintro e wa ⟨va, rfl, ha, hxa⟩; (obtain ⟨pa, Aa, na, ca, rfl⟩ := ha.1.shape); (have hSa := Later.step (by assumption) hxa); (try (have e1 := boxAd hxa; have e11 := e1.c0; have e12 := e1.c1; have e13 := e1.c2; have e14 := e1.c3; have e15 := e1.frozen 0; have e16 := e1.frozen 1; have e17 := e1.frozen 2; have e18 := e1.frozen 3)))
          | (go_at_call 23; (with_reducible refine (Make_b _ _ _ _ _ _ _ (ha.ext (by repeat (first | (with_reducible exact Ext.refl _) | (with_reducible apply Ext.drew) | (with_reducible apply Ext.drewN) | (with_reducible apply Ext.alloc) | (with_reducible refine Ext.trans ?_ (by assumption))))) (hO.ext (by repeat (first | (with_reducible exact Ext.refl _) | (with_reducible apply Ext.drew) | (with_reducible apply Ext.drewN) | (with_reducible apply Ext.alloc) | (with_reducible refine Ext.trans ?_ (by assumption))))) (by decide) (by decide)).mono ?_); rintro e wb ⟨vb, rfl, hb, hxb⟩; rw [divInt_int] at hb; (obtain ⟨pb, Ab, nb, cb, pb', Ab', nb', cb', rfl⟩ := hb.1.shape); (have hSb := Later.step (by assumption) hxb); (try (have g1 := boxA hxb; have g11 := g1.c0; have g12 := g1.c1; have g13 := g1.c2; have g14 := g1.c3; have g15 := g1.frozen 0; have g16 := g1.frozen 1; have g17 := g1.frozen 2; have g18 := g1.frozen 3)); (try (have g1 := Box.ext e1 hxb; have g11 := g1.c0; have g12 := g1.c1; have g13 := g1.c2; have g14 := g1.c3; have g15 := g1.frozen 0; have g16 := g1.frozen 1; have g17 := g1.frozen 2; have g18 := g1.frozen 3)))
          )
        all_goals (go_wp2_with fail; go_meet)
        all_goals first
          | (with_reducible exact ⟨_, _, _, _, _, _, _, _, _, rfl, rfl, Box.new _ _ _, hb.ext ((Ext.refl _).alloc _), Later.alloc hSb _⟩)
          | exact ⟨_, _, _, _, _, _, _, _, _, rfl, rfl, g1.set4 _ _ _ _, hb.far4 g1, Ext.set4 (show Ext W2 _ from hSb) (by first | exact Nat.le_refl _ | exact Later.size hSa) _ _ _ _⟩
      case rest =>
        obtain ⟨b8, n8, c8, n8', c8', p8, p8', A8, A8', rfl, rfl, B8, hHI, hLr⟩ := hcut
        have hMr : Ext W2 wc := hLr
        have hX := hX.ext hMr
        have hO := hO.ext hMr
        have hLO := hLO.ext hMr
        have B3 := B3.ext hMr
        have B5 := B5.ext hMr
        have B6 := B6.ext hMr
        have hE := hE.trans hMr
        have hTab := htab.ext hE
        clear k30 k31 k32 k33 k50 k51 hS0 hMr hLr
        generalize wc = W3 at *
        have k30 : ∀ w', Later W3 w' → w'.cell? ⟨_, 0, none⟩ = some _ := fun w' h => (B3.ext h).c0
        have k31 : ∀ w', Later W3 w' → w'.cell? ⟨_, 1, none⟩ = some _ := fun w' h => (B3.ext h).c1
        have k32 : ∀ w', Later W3 w' → w'.cell? ⟨_, 2, none⟩ = some _ := fun w' h => (B3.ext h).c2
        have k33 : ∀ w', Later W3 w' → w'.cell? ⟨_, 3, none⟩ = some _ := fun w' h => (B3.ext h).c3
        have k60 : ∀ w', Later W3 w' → w'.cell? ⟨_, 0, none⟩ = some _ := fun w' h => (B6.ext h).c0
        have k61 : ∀ w', Later W3 w' → w'.cell? ⟨_, 1, none⟩ = some _ := fun w' h => (B6.ext h).c1
        have k62 : ∀ w', Later W3 w' → w'.cell? ⟨_, 2, none⟩ = some _ := fun w' h => (B6.ext h).c2
        have k63 : ∀ w', Later W3 w' → w'.cell? ⟨_, 3, none⟩ = some _ := fun w' h => (B6.ext h).c3
        have k80 : ∀ w', Later W3 w' → w'.cell? ⟨_, 0, none⟩ = some _ := fun w' h => (B8.ext h).c0
        have k81 : ∀ w', Later W3 w' → w'.cell? ⟨_, 1, none⟩ = some _ := fun w' h => (B8.ext h).c1
        have k82 : ∀ w', Later W3 w' → w'.cell? ⟨_, 2, none⟩ = some _ := fun w' h => (B8.ext h).c2
        have k83 : ∀ w', Later W3 w' → w'.cell? ⟨_, 3, none⟩ = some _ := fun w' h => (B8.ext h).c3
        have k50 : ∀ w', Later W3 w' → w'.cell? ⟨w6.heap.size, 0, none⟩ = some (.bool p6) := fun w' h => (B5.ext h).c0
        have k51 : ∀ w', Later W3 w' → w'.cell? ⟨w6.heap.size, 1, none⟩ = some (.slice A6 n6 c6) := fun w' h => (B5.ext h).c1
        have hS0 := Later.refl W3
        obtain ⟨LO, hlo⟩ : ∃ q : Rat, q = ((floorZ X : Int) : Rat) := ⟨_, rfl⟩
        obtain ⟨HI, hhi⟩ : ∃ q : Rat, q = ((ceilZ X : Int) : Rat) := ⟨_, rfl⟩
        rw [← hlo] at hLO
        rw [← hhi] at hHI
        have c1 : decide (0 < cmpQ LO X) = false := by
          have := cmpQ_le (floor_le X); rw [← hlo] at this; simp; omega
        have c2 : decide (cmpQ HI X < 0) = false := by
          have := cmpQ_le (ceil_ge X); rw [← hhi, cmpQ_swap] at this; simp; omega
        have c3 : (cmpZ (-(floorZ (-X))) (ceilZ X) != 0) = false := by rw [ceil_neg, cmpZ_self]; rfl
        obtain ⟨wh, hwh⟩ : ∃ b, b = decide (X.den = 1) := ⟨_, rfl⟩
        have c4 : (cmpZ (X.den : Int) 1 == 0) = wh := by
          rw [hwh]
          by_cases h : X.den = 1
          · rw [h, show ((1 : Nat) : Int) = 1 from rfl, cmpZ_zero.2 rfl]; rfl
          · have : ¬ cmpZ (X.den : Int) 1 = 0 := fun e => h (by have := cmpZ_zero.1 e; omega)
            rw [beq_eq_false_iff_ne.2 this, decide_eq_false h]
        have HW1 : Hid (wh = true → HI - LO = ((0 : Int) : Rat)) := Lib.hid (fun e => by
          rw [hwh] at e
          rw [hlo, hhi, ← Rat.intCast_sub, (rounds_law X).1 (by simpa using e)])
        have HW2 : Hid (wh = false → HI - LO = ((1 : Int) : Rat)) := Lib.hid (fun e => by
          rw [hwh] at e
          rw [hlo, hhi, ← Rat.intCast_sub, (rounds_law X).2 (by simpa using e)])
        clear hlo hhi hwh
        go_upto_region 9 with fail
        go_cut [66] (fun v wx => v = .bool false ∧ Later W3 wx)
        case first =>
          go_region_held3 (fun w' => Later W3 w') ((repeat (first | assumption | apply Later.drew | apply Later.drewN | apply Later.alloc | (refine Later.step ?_ (by assumption))))) (first
            | (go_at_call 33; (with_reducible refine (RatFloor_b _ _ _ _ (RatB.ext (by assumption) (by repeat (first | (with_reducible exact Ext.refl _) | (with_reducible apply Ext.drew) | (with_reducible apply Ext.drewN) | (with_reducible refine Ext.trans ?_ (by assumption))))) (by decide)).mono ?_); rintro e wk ⟨vk, rfl, hbk, hxk⟩; (obtain ⟨pk, Ak, nk, ck, rfl⟩ := hbk.1.shape))
            | (go_at_call 34; (with_reducible refine (RatCeil_b _ _ _ _ (RatB.ext (by assumption) (by repeat (first | (with_reducible exact Ext.refl _) | (with_reducible apply Ext.drew) | (with_reducible apply Ext.drewN) | (with_reducible refine Ext.trans ?_ (by assumption))))) (by decide)).mono ?_); rintro e wk ⟨vk, rfl, hbk, hxk⟩; (obtain ⟨pk, Ak, nk, ck, rfl⟩ := hbk.1.shape))
              | (go_at_call 41; (with_reducible refine (RatAdd_b _ _ _ _ _ _ _ (RatB.ext (by assumption) (by repeat (first | (with_reducible exact Ext.refl _) | (with_reducible apply Ext.drew) | (with_reducible apply Ext.drewN) | (with_reducible refine Ext.trans ?_ (by assumption))))) (RatB.ext (by assumption) (by repeat (first | (with_reducible exact Ext.refl _) | (with_reducible apply Ext.drew) | (with_reducible apply Ext.drewN) | (with_reducible refine Ext.trans ?_ (by assumption))))) (by decide)).mono ?_); rintro e wk ⟨vk, rfl, hbk, hxk⟩; (obtain ⟨pk, Ak, nk, ck, pk', Ak', nk', ck', rfl⟩ := hbk.1.shape))
              | (go_at_call 38; (with_reducible refine (RatSub_b _ _ _ _ _ _ _ (RatB.ext (by assumption) (by repeat (first | (with_reducible exact Ext.refl _) | (with_reducible apply Ext.drew) | (with_reducible apply Ext.drewN) | (with_reducible refine Ext.trans ?_ (by assumption))))) (RatB.ext (by assumption) (by repeat (first | (with_reducible exact Ext.refl _) | (with_reducible apply Ext.drew) | (with_reducible apply Ext.drewN) | (with_reducible refine Ext.trans ?_ (by assumption))))) (by decide)).mono ?_); rintro e wk ⟨vk, rfl, hbk, hxk⟩; (obtain ⟨pk, Ak, nk, ck, pk', Ak', nk', ck', rfl⟩ := hbk.1.shape))
              | (go_at_call 42; (with_reducible refine (RatMul_b _ _ _ _ _ _ _ (RatB.ext (by assumption) (by repeat (first | (with_reducible exact Ext.refl _) | (with_reducible apply Ext.drew) | (with_reducible apply Ext.drewN) | (with_reducible refine Ext.trans ?_ (by assumption))))) (RatB.ext (by assumption) (by repeat (first | (with_reducible exact Ext.refl _) | (with_reducible apply Ext.drew) | (with_reducible apply Ext.drewN) | (with_reducible refine Ext.trans ?_ (by assumption))))) (by decide)).mono ?_); rintro e wk ⟨vk, rfl, hbk, hxk⟩; (obtain ⟨pk, Ak, nk, ck, pk', Ak', nk', ck', rfl⟩ := hbk.1.shape))
              | (go_at_call 36; (with_reducible refine (RatNeg_b _ _ _ _ (RatB.ext (by assumption) (by repeat (first | (with_reducible exact Ext.refl _) | (with_reducible apply Ext.drew) | (with_reducible apply Ext.drewN) | (with_reducible refine Ext.trans ?_ (by assumption)))))).mono ?_); rintro e wk ⟨vk, rfl, hbk, hxk⟩; (obtain ⟨pk, Ak, nk, ck, pk', Ak', nk', ck', rfl⟩ := hbk.1.shape))
              | (go_at_call 35; (with_reducible refine (RatCmp_b _ _ _ _ _ _ _ (RatB.ext (by assumption) (by repeat (first | (with_reducible exact Ext.refl _) | (with_reducible apply Ext.drew) | (with_reducible apply Ext.drewN) | (with_reducible refine Ext.trans ?_ (by assumption))))) (RatB.ext (by assumption) (by repeat (first | (with_reducible exact Ext.refl _) | (with_reducible apply Ext.drew) | (with_reducible apply Ext.drewN) | (with_reducible refine Ext.trans ?_ (by assumption))))) (by decide)).mono ?_); rintro e wk ⟨rfl, hxk⟩)
              | (go_at_call 13; (with_reducible refine (RatSign_b _ _ _ _ (RatB.ext (by assumption) (by repeat (first | (with_reducible exact Ext.refl _) | (with_reducible apply Ext.drew) | (with_reducible apply Ext.drewN) | (with_reducible refine Ext.trans ?_ (by assumption)))))).mono ?_); rintro e wk ⟨rfl, hxk⟩)
              | (go_at_call 39; (with_reducible refine (RatOf_b _ _ (by first | assumption | decide) (by first | assumption | decide)).mono ?_); rintro e wk ⟨vk, rfl, hbk, hxk⟩; (obtain ⟨pk, Ak, nk, ck, pk', Ak', nk', ck', rfl⟩ := hbk.1.shape))
              | (go_at_call 20; (with_reducible refine (RatDen_b _ _ _ _ (RatB.ext (by assumption) (by repeat (first | (with_reducible exact Ext.refl _) | (with_reducible apply Ext.drew) | (with_reducible apply Ext.drewN) | (with_reducible refine Ext.trans ?_ (by assumption)))))).mono ?_); rintro e wk ⟨vk, rfl, hbk, hxk⟩; (obtain ⟨pk, Ak, nk, ck, rfl⟩ := hbk.1.shape))
              | (go_at_call 25; (with_reducible refine (Mul_b _ _ _ _ _ _ _ (BigB.ext (by assumption) (by repeat (first | (with_reducible exact Ext.refl _) | (with_reducible apply Ext.drew) | (with_reducible apply Ext.drewN) | (with_reducible refine Ext.trans ?_ (by assumption))))) (BigB.ext (by assumption) (by repeat (first | (with_reducible exact Ext.refl _) | (with_reducible apply Ext.drew) | (with_reducible apply Ext.drewN) | (with_reducible refine Ext.trans ?_ (by assumption))))) (by omega)).mono ?_); rintro e wk ⟨vk, rfl, hbk, hxk⟩; (obtain ⟨pk, Ak, nk, ck, rfl⟩ := hbk.1.shape))
              | (go_at_call 68; (with_reducible refine (Add_b _ _ _ _ _ _ _ (BigB.ext (by assumption) (by repeat (first | (with_reducible exact Ext.refl _) | (with_reducible apply Ext.drew) | (with_reducible apply Ext.drewN) | (with_reducible refine Ext.trans ?_ (by assumption))))) (BigB.ext (by assumption) (by repeat (first | (with_reducible exact Ext.refl _) | (with_reducible apply Ext.drew) | (with_reducible apply Ext.drewN) | (with_reducible refine Ext.trans ?_ (by assumption))))) (by omega)).mono ?_); rintro e wk ⟨vk, rfl, hbk, hxk⟩; (obtain ⟨pk, Ak, nk, ck, rfl⟩ := hbk.1.shape))
              | (go_at_call 26; (with_reducible refine (Cmp_b _ _ _ _ _ _ _ (BigB.ext (by assumption) (by repeat (first | (with_reducible exact Ext.refl _) | (with_reducible apply Ext.drew) | (with_reducible apply Ext.drewN) | (with_reducible refine Ext.trans ?_ (by assumption))))) (BigB.ext (by assumption) (by repeat (first | (with_reducible exact Ext.refl _) | (with_reducible apply Ext.drew) | (with_reducible apply Ext.drewN) | (with_reducible refine Ext.trans ?_ (by assumption)))))).mono ?_); rintro e wk ⟨rfl, hxk⟩)
              | (go_at_call 37; (with_reducible refine (Neg_b _ _ _ _ (BigB.ext (by assumption) (by repeat (first | (with_reducible exact Ext.refl _) | (with_reducible apply Ext.drew) | (with_reducible apply Ext.drewN) | (with_reducible refine Ext.trans ?_ (by assumption)))))).mono ?_); rintro e wk ⟨vk, rfl, hbk, hxk⟩; (obtain ⟨pk, Ak, nk, ck, rfl⟩ := hbk.1.shape))
            )
          all_goals (go_wp2_with fail; go_meet)
          all_goals exact ⟨rfl, by assumption⟩
        case rest =>
          obtain ⟨rfl, hL⟩ := hcut
          have hMc : Ext W3 wc := hL
          have hX := hX.ext hMc
          have hO := hO.ext hMc
          clear hMc
          go_upto_region 11 with fail
          go_region_held3 (fun w' => Later W3 w') ((repeat (first | assumption | apply Later.drew | apply Later.drewN | apply Later.alloc | (refine Later.step ?_ (by assumption))))) (first
              | (go_at_call 20; (with_reducible refine (RatDen_b _ _ _ _ (RatB.ext (by assumption) (by repeat (first | (with_reducible exact Ext.refl _) | (with_reducible apply Ext.drew) | (with_reducible apply Ext.drewN) | (with_reducible refine Ext.trans ?_ (by assumption)))))).mono ?_); rintro e wk ⟨vk, rfl, hbk, hxk⟩; (obtain ⟨pk, Ak, nk, ck, rfl⟩ := hbk.1.shape))
              | (go_at_call 25; (with_reducible refine (Mul_b _ _ _ _ _ _ _ (BigB.ext (by assumption) (by repeat (first | (with_reducible exact Ext.refl _) | (with_reducible apply Ext.drew) | (with_reducible apply Ext.drewN) | (with_reducible refine Ext.trans ?_ (by assumption))))) (BigB.ext (by assumption) (by repeat (first | (with_reducible exact Ext.refl _) | (with_reducible apply Ext.drew) | (with_reducible apply Ext.drewN) | (with_reducible refine Ext.trans ?_ (by assumption))))) (by omega)).mono ?_); rintro e wk ⟨vk, rfl, hbk, hxk⟩; (obtain ⟨pk, Ak, nk, ck, rfl⟩ := hbk.1.shape))
              | (go_at_call 68; (with_reducible refine (Add_b _ _ _ _ _ _ _ (BigB.ext (by assumption) (by repeat (first | (with_reducible exact Ext.refl _) | (with_reducible apply Ext.drew) | (with_reducible apply Ext.drewN) | (with_reducible refine Ext.trans ?_ (by assumption))))) (BigB.ext (by assumption) (by repeat (first | (with_reducible exact Ext.refl _) | (with_reducible apply Ext.drew) | (with_reducible apply Ext.drewN) | (with_reducible refine Ext.trans ?_ (by assumption))))) (by omega)).mono ?_); rintro e wk ⟨vk, rfl, hbk, hxk⟩; (obtain ⟨pk, Ak, nk, ck, rfl⟩ := hbk.1.shape))
              | (go_at_call 26; (with_reducible refine (Cmp_b _ _ _ _ _ _ _ (BigB.ext (by assumption) (by repeat (first | (with_reducible exact Ext.refl _) | (with_reducible apply Ext.drew) | (with_reducible apply Ext.drewN) | (with_reducible refine Ext.trans ?_ (by assumption))))) (BigB.ext (by assumption) (by repeat (first | (with_reducible exact Ext.refl _) | (with_reducible apply Ext.drew) | (with_reducible apply Ext.drewN) | (with_reducible refine Ext.trans ?_ (by assumption)))))).mono ?_); rintro e wk ⟨rfl, hxk⟩)
              | (go_at_call 37; (with_reducible refine (Neg_b _ _ _ _ (BigB.ext (by assumption) (by repeat (first | (with_reducible exact Ext.refl _) | (with_reducible apply Ext.drew) | (with_reducible apply Ext.drewN) | (with_reducible refine Ext.trans ?_ (by assumption)))))).mono ?_); rintro e wk ⟨vk, rfl, hbk, hxk⟩; (obtain ⟨pk, Ak, nk, ck, rfl⟩ := hbk.1.shape))
            )
          all_goals go_wp2_with fail
          all_goals (have hM : Ext W3 wk := (show Later W3 wk by assumption))
          all_goals (
            have hLk : Later W3 wk := hM
            have hTab := hTab.ext hM
            have hHI := hHI.ext hM
            have hLO := hLO.ext hM
            refine (RatSub_b _ _ _ _ _ _ _ hHI hLO (by decide)).mono ?_
            rintro e wl ⟨vl, rfl, hl, hxl⟩
            obtain ⟨pl, Al, nl, cl, pl', Al', nl', cl', rfl⟩ := hl.1.shape
            have hLl : Later W3 wl := Later.step hLk hxl
            go_wp2_with fail
            refine (RatOf_b 0 _ (by decide) (by decide)).mono ?_
            rintro e wm ⟨vm, rfl, hm, hxm⟩
            obtain ⟨pm, Am, nm, cm, pm', Am', nm', cm', rfl⟩ := hm.1.shape
            have hLm : Later W3 wm := Later.step hLl hxm
            go_wp2_with fail
            cases wh
            case true =>
              refine (RatSame_eq _ _ _ _ _ _ _ (hl.ext hxm) hm (by decide) ((hTab.ext hxl).ext hxm) (HW1.out rfl)).mono ?_
              rintro e wn ⟨rfl, hxn⟩
              have hLn : Later W3 wn := Later.step hLm hxn
              go_wp2_with fail
              go_ret
              exact ⟨rfl, hE.trans (show Ext W3 wn from hLn)⟩
            case false =>
              refine (RatSame_ne _ _ _ _ _ _ _ (hl.ext hxm) hm (by decide) ((hTab.ext hxl).ext hxm) (by rw [HW2.out rfl]; decide)).mono ?_
              rintro e wn ⟨rfl, hxn⟩
              have hLn : Later W3 wn := Later.step hLm hxn
              have hkn : Ext wk wn := (hxl.trans hxm).trans hxn
              go_wp2_with fail
              refine (RatSub_b _ _ _ _ _ _ _ (hHI.ext hkn) (hLO.ext hkn) (by decide)).mono ?_
              rintro e wo ⟨vo, rfl, ho, hxo⟩
              obtain ⟨po, Ao, no, co, po', Ao', no', co', rfl⟩ := ho.1.shape
              have hLo : Later W3 wo := Later.step hLn hxo
              go_wp2_with fail
              refine (RatOf_b 1 _ (by decide) (by decide)).mono ?_
              rintro e wp ⟨vp, rfl, hp, hxp⟩
              obtain ⟨pp, Ap, np, cp, pp', Ap', np', cp', rfl⟩ := hp.1.shape
              have hLp : Later W3 wp := Later.step hLo hxp
              go_wp2_with fail
              refine (RatSame_eq _ _ _ _ _ _ _ (ho.ext hxp) hp (by decide) (((hTab.ext hkn).ext hxo).ext hxp) (by have h := HW2.out; simpa using h)).mono ?_
              rintro e wq ⟨rfl, hxq⟩
              have hLq : Later W3 wq := Later.step hLp hxq
              go_wp2_with fail
              go_ret
              exact ⟨rfl, hE.trans (show Ext W3 wq from hLq)⟩)
end Go.Proofs.YteohdiaegnfbaaaDoor.Rt
