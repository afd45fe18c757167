/- Walks: product, Value. Plain: Bnd, from bounds of a problem's numbers. Solve and Farkas: contracts in one form. What the laws' numbers are bounded by; the examples of the chapter (plain). -/
import Derived.Test.YtljncdcjkdgkeaaGreatDoorLN2
import Derived.Test.YtljncdcjkdgkeaaGreatDoorLJ
import Derived.Test.YtljncdcjkdgkeaaGreatDoorLSC
import Derived.Test.YtljncdcjkdgkeaaGreatDoorT6
set_option linter.unusedVariables false
set_option linter.unusedSimpArgs false
namespace Go.Proofs.YtljncdcjkdgkeaaGreatDoor.Lp
open Go.RowKit Go.Proofs.YtljncdcjkdgkeaaGreatDoor.Big Go.Proofs.YtljncdcjkdgkeaaGreatDoor.Rt

theorem QB_zero {k : Nat} (h : 0 < k) : QB k 0 := by
  have h1 := pw_le h
  rw [pw_one] at h1
  exact ⟨by show (0 : Int).natAbs < pw k; simp; omega, by show ((1 : Nat) : Int).natAbs < pw k; simp; omega⟩
theorem QB_mag : Mag QB :=
  ⟨fun h b => QB_mono h b, QB_neg, fun {j k x y} a b => by rw [Rat.sub_eq_add_neg]; exact QB_add a (QB_neg b), QB_add, QB_mul, fun a b h => QB_div a b (fun e => h (Rat.num_eq_zero.1 e)), QB_zero⟩
theorem sm_step (n : Nat) (f : Nat → Rat) : sm (n + 1) f = sm n f + f n := rfl
theorem nonzero_sign {q : Rat} (h : q ≠ 0) : (q.num.sign != 0) = true := by
  have := sign_ne (x := q.num) (fun e => h (Rat.num_eq_zero.1 e)); simpa using this
theorem zero_sign {q : Rat} (h : q = 0) : (q.num.sign != 0) = false := by rw [h]; rfl
set_option maxHeartbeats 8000000 in
theorem product_b (Aa Ab : Option Addr) (n ca cb : Nat) (f g : Nat → Rat) (Kf Kg T : Nat) (w : World) (ha : RatsV w Aa n ca f) (hb : RatsV w Ab n cb g)
    (hf : ∀ j, j < n → QB Kf (f j)) (hg : ∀ j, j < n → QB Kg (g j)) (hn : n ≤ 1099511627776) (hT : 1 + n * (Kf + Kg + 1) ≤ T) (hT2 : T ≤ 137438953472) (hT3 : Kf + Kg ≤ 137438953472) :
    Calls Tryz.prog 62 #[.slice Aa n ca, .slice Ab n cb] w (RatBPost w (dot n f g) T) := by
  have HS : Hid (∀ j, j ≤ n → QB T (sm j (fun i => f i * g i))) := Lib.hid (fun j hj => QB_mono (Nat.le_trans (by have := Nat.mul_le_mul_right (Kf + Kg + 1) hj; omega) hT) (QB_mag.sum j (c := Kf + Kg) (fun i hi => QB_mul (hf i (by omega)) (hg i (by omega)))))
  have HF := Lib.hid hf
  have HG := Lib.hid hg
  have hca := ha.1
  have hcb := hb.1
  clear hf hg hT
  obtain ⟨D, hD⟩ : ∃ D, D = dot n f g := ⟨_, rfl⟩
  rw [← hD]
  have HD : Hid (D = sm n (fun i => f i * g i)) := Lib.hid hD
  clear hD
  obtain ⟨B0, B1, hE0⟩ := boxes2 w 58 #[.bool false, .slice none 0 0, .bool false, .slice none 0 0] #[.bool false, .slice none 0 0, .bool false, .slice none 0 0]
  go_enter Tryz.func62, Tryz.ntmps62
  go_upto_region 2 with fail
  generalize ((w.alloc (.cells #[.bool false, .slice none 0 0, .bool false, .slice none 0 0] 58)).alloc (.cells #[.bool false, .slice none 0 0, .bool false, .slice none 0 0] 58)) = V at *
  obtain ⟨b1, hb1⟩ : ∃ x, x = w.heap.size + 1 := ⟨_, rfl⟩
  obtain ⟨b0, hb0⟩ : ∃ x, x = w.heap.size := ⟨_, rfl⟩
  rw [← hb1] at B1 ⊢
  rw [← hb0] at B0 ⊢
  have hw1 : w.heap.size ≤ b1 := by omega
  have hw0 : w.heap.size ≤ b0 := by omega
  have h01 : b0 ≠ b1 := by omega
  clear hb1 hb0
  go_wp2_with fail
  go_loopw [10] (fun i wr => ∃ j : Nat, j ≤ n ∧ i = .int .i64 j ∧ RBox wr b1 (sm j (fun i => f i * g i)) T ∧ Box wr b0 58 #[.bool false, .slice none 0 0, .bool false, .slice none 0 0] ∧ Ext w wr) (fun i _ => n - (intOf i).toNat)
  case atStart => exact ⟨0, by omega, rfl, ⟨_, _, _, _, _, _, _, _, B1, RatV.zero _, HS.out 0 (by omega)⟩, B0, hE0⟩
  case round =>
    clear B0 B1 hE0
    obtain ⟨j, hj, rfl, HR, B0, hx⟩ := hrel
    by_cases hlt : j < n
    · obtain ⟨ba, rfl, hRa⟩ := ha.2.2 (by omega)
      obtain ⟨bb, rfl, hRb⟩ := hb.2.2 (by omega)
      obtain ⟨p1, A1, m1, c1, p1', A1', m1', c1', e0, e1, e2, e3, hr⟩ := (hRa.ext hx).at hlt
      obtain ⟨p2, A2, m2, c2, p2', A2', m2', c2', g0, g1, g2, g3, hr2⟩ := (hRb.ext hx).at hlt
      have hi1 : (0 : Int) ≤ (j : Int) := by omega
      have hi2 : (j : Int) < (n : Int) := by omega
      go_upto_region 5 with fail
      have Bx := Box.new wr 58 #[.bool p1, .slice A1 m1 c1, .bool p1', .slice A1' m1' c1']
      have hEx : Ext wr (wr.alloc (.cells #[.bool p1, .slice A1 m1 c1, .bool p1', .slice A1' m1' c1'] 58)) := (Ext.refl wr).alloc _
      generalize (wr.alloc (.cells #[.bool p1, .slice A1 m1 c1, .bool p1', .slice A1' m1' c1'] 58)) = U at *
      have hr := hr.ext hEx
      have hr2 := hr2.ext hEx
      have HR := HR.ext hEx
      have B0 := B0.ext hEx
      have hx := hx.trans hEx
      have g0 := hEx.cell g0
      have g1 := hEx.cell g1
      have g2 := hEx.cell g2
      have g3 := hEx.cell g3
      have x0 := Bx.c0
      have x1 := Bx.c1
      have x2 := Bx.c2
      have x3 := Bx.c3
      clear e0 e1 e2 e3 hEx
      have HNX : Hid (sm (j + 1) (fun i => f i * g i) = sm j (fun i => f i * g i) + f j * g j) := Lib.hid rfl
      obtain ⟨F, hF⟩ : ∃ F, F = f j := ⟨_, rfl⟩
      obtain ⟨G, hG⟩ : ∃ F, F = g j := ⟨_, rfl⟩
      have HQF := Lib.hid (HF.out j hlt)
      have HQG := Lib.hid (HG.out j hlt)
      rw [← hF] at hr HQF HNX
      rw [← hG] at hr2 HQG HNX
      obtain ⟨S, hS⟩ : ∃ S, S = sm j (fun i => f i * g i) := ⟨_, rfl⟩
      rw [← hS] at HR HNX
      clear hF hG hS
      go_wp2_with fail
      refine (RatSign_b _ F Kf _ ⟨hr, HQF.out⟩).mono ?_
      rintro e w1 ⟨rfl, hx1⟩
      have hr := hr.ext hx1
      have hr2 := hr2.ext hx1
      have HR := HR.ext hx1
      have B0 := B0.ext hx1
      have Bx := Bx.ext hx1
      have hx := hx.trans hx1
      have g0 := hx1.cell g0
      have g1 := hx1.cell g1
      have g2 := hx1.cell g2
      have g3 := hx1.cell g3
      obtain ⟨sg, hsg⟩ : ∃ s, s = F.num.sign := ⟨_, rfl⟩
      rw [← hsg]
      by_cases hF0 : F = 0
      · have e5 : (sg != 0) = false := by rw [hsg]; exact zero_sign hF0
        have HN : Hid (sm (j + 1) (fun i => f i * g i) = S) := Lib.hid (by rw [HNX.out, hF0]; grind)
        clear hsg hF0 x0 x1 x2 x3
        go_wp2_with fail
        go_roundw
        case rel => exact ⟨j + 1, by omega, by go_num, by rw [HN.out]; exact HR, B0, hx⟩
        case measure => simp [intOf]; omega
      · have e5 : (sg != 0) = true := by rw [hsg]; exact nonzero_sign hF0
        clear hsg hF0 x0 x1 x2 x3
        go_wp2_with fail
        refine (RatSign_b _ G Kg _ ⟨hr2, HQG.out⟩).mono ?_
        rintro e w2 ⟨rfl, hx2⟩
        have hr := hr.ext hx2
        have hr2 := hr2.ext hx2
        have HR := HR.ext hx2
        have B0 := B0.ext hx2
        have Bx := Bx.ext hx2
        have hx := hx.trans hx2
        have g0 := hx2.cell g0
        have g1 := hx2.cell g1
        have g2 := hx2.cell g2
        have g3 := hx2.cell g3
        obtain ⟨sh, hsh⟩ : ∃ s, s = G.num.sign := ⟨_, rfl⟩
        rw [← hsh]
        by_cases hG0 : G = 0
        · have e6 : (sh != 0) = false := by rw [hsh]; exact zero_sign hG0
          have HN : Hid (sm (j + 1) (fun i => f i * g i) = S) := Lib.hid (by rw [HNX.out, hG0]; grind)
          clear hsh hG0
          go_wp2_with fail
          go_roundw
          case rel => exact ⟨j + 1, by omega, by go_num, by rw [HN.out]; exact HR, B0, hx⟩
          case measure => simp [intOf]; omega
        · have e6 : (sh != 0) = true := by rw [hsh]; exact nonzero_sign hG0
          clear hsh hG0
          obtain ⟨y0, y1, YA, YA', yd, ye, yd', ye', BY, hY⟩ := HR
          have hFB : RatB w2 _ F Kf := ⟨hr, HQF.out⟩
          have hGB : RatB w2 _ G Kg := ⟨hr2, HQG.out⟩
          have k20 : ∀ w', Later w2 w' → w'.cell? ⟨bb, j * 4, none⟩ = some _ := fun w' h => Later.cell h g0
          have k21 : ∀ w', Later w2 w' → w'.cell? ⟨bb, j * 4 + 1, none⟩ = some _ := fun w' h => Later.cell h g1
          have k22 : ∀ w', Later w2 w' → w'.cell? ⟨bb, j * 4 + 2, none⟩ = some _ := fun w' h => Later.cell h g2
          have k23 : ∀ w', Later w2 w' → w'.cell? ⟨bb, j * 4 + 3, none⟩ = some _ := fun w' h => Later.cell h g3
          have kx0 : ∀ w', Later w2 w' → w'.cell? ⟨_, 0, none⟩ = some _ := fun w' h => (Bx.ext h).c0
          have kx1 : ∀ w', Later w2 w' → w'.cell? ⟨_, 1, none⟩ = some _ := fun w' h => (Bx.ext h).c1
          have kx2 : ∀ w', Later w2 w' → w'.cell? ⟨_, 2, none⟩ = some _ := fun w' h => (Bx.ext h).c2
          have kx3 : ∀ w', Later w2 w' → w'.cell? ⟨_, 3, none⟩ = some _ := fun w' h => (Bx.ext h).c3
          have ky0 : ∀ w', Later w2 w' → w'.cell? ⟨_, 0, none⟩ = some _ := fun w' h => (BY.ext h).c0
          have ky1 : ∀ w', Later w2 w' → w'.cell? ⟨_, 1, none⟩ = some _ := fun w' h => (BY.ext h).c1
          have ky2 : ∀ w', Later w2 w' → w'.cell? ⟨_, 2, none⟩ = some _ := fun w' h => (BY.ext h).c2
          have ky3 : ∀ w', Later w2 w' → w'.cell? ⟨_, 3, none⟩ = some _ := fun w' h => (BY.ext h).c3
          have ks := Later.refl w2
          clear g0 g1 g2 g3
          go_upto_region 6 with fail
          go_region_with (first
            | (go_at_call 87; (with_reducible refine (RatMul_b _ _ _ _ _ _ _ (RatB.ext hFB (by repeat (first | (with_reducible exact Ext.refl _) | (with_reducible apply Ext.drew) | (with_reducible apply Ext.drewN) | (with_reducible refine Ext.trans ?_ (by assumption))))) (RatB.ext hGB (by repeat (first | (with_reducible exact Ext.refl _) | (with_reducible apply Ext.drew) | (with_reducible apply Ext.drewN) | (with_reducible refine Ext.trans ?_ (by assumption))))) (by omega)).mono ?_); rintro e wk ⟨vk, rfl, hbk, hxk⟩; (obtain ⟨pk, Ak, nk, ck, pk', Ak', nk', ck', rfl⟩ := hbk.1.shape); (have hkL : Later w2 wk := Ext.trans (by repeat (first | (with_reducible exact Ext.refl _) | (with_reducible apply Ext.drew) | (with_reducible apply Ext.drewN))) hxk))
            | (go_at_call 47; (with_reducible refine (RatAdd_b _ _ _ _ _ _ _ (RatB.ext hY (by repeat (first | (with_reducible exact Ext.refl _) | (with_reducible apply Ext.drew) | (with_reducible apply Ext.drewN) | (with_reducible refine Ext.trans ?_ (by assumption))))) (RatB.ext hbk (by repeat (first | (with_reducible exact Ext.refl _) | (with_reducible apply Ext.drew) | (with_reducible apply Ext.drewN) | (with_reducible refine Ext.trans ?_ (by assumption))))) (by omega)).mono ?_); rintro e wl ⟨vl, rfl, hbl, hxl⟩; (obtain ⟨pl, Al, nl, cl, pl', Al', nl', cl', rfl⟩ := hbl.1.shape); (have hlL : Ext w2 wl := Ext.trans (by repeat (first | (with_reducible exact Ext.refl _) | (with_reducible apply Ext.drew) | (with_reducible apply Ext.drewN) | (with_reducible refine Ext.trans ?_ (by assumption)))) hxl); (have BYl := BY.ext hlL); (have f0 := BYl.frozen 0); (have f1 := BYl.frozen 1); (have f2 := BYl.frozen 2); (have f3 := BYl.frozen 3); (have z0 := BYl.c0); (have z1 := BYl.c1); (have z2 := BYl.c2); (have z3 := BYl.c3))
            )
          all_goals (
            have hQ4 := (RatV.put hbl.1 BYl).1
            have hB4 := (RatV.put hbl.1 BYl).2
            have B0l := B0.ext hlL
            have hX4 := ((((hx.trans hlL).set (p := ⟨b1, 0, none⟩) hw1 (.bool pl)).set (p := ⟨b1, 1, none⟩) hw1 (.slice Al nl cl)).set (p := ⟨b1, 2, none⟩) hw1 (.bool pl')).set (p := ⟨b1, 3, none⟩) hw1 (.slice Al' nl' cl')
            have B04 := (((B0l.far (p := ⟨b1, 0, none⟩) h01 (.bool pl)).far (p := ⟨b1, 1, none⟩) h01 (.slice Al nl cl)).far (p := ⟨b1, 2, none⟩) h01 (.bool pl')).far (p := ⟨b1, 3, none⟩) h01 (.slice Al' nl' cl')
            have hRB := HS.out (j + 1) (by omega)
            rw [← HNX.out] at hQ4
            have HRN : RBox _ b1 _ T := ⟨_, _, _, _, _, _, _, _, hB4, hQ4, hRB⟩
            go_wp2_with fail
            go_roundw
            case rel => exact ⟨j + 1, by omega, by go_num, HRN, B04, hX4⟩
            case measure => simp [intOf]; omega)
    · obtain rfl : j = n := by omega
      obtain ⟨y0, y1, YA, YA', yd, ye, yd', ye', BY, hY⟩ := HR
      rw [← HD.out] at hY
      have x0 := BY.c0
      have x1 := BY.c1
      have x2 := BY.c2
      have x3 := BY.c3
      have z0 := B0.c0
      have z1 := B0.c1
      have z2 := B0.c2
      have z3 := B0.c3
      have f0 := B0.frozen 0
      have f1 := B0.frozen 1
      have f2 := B0.frozen 2
      have f3 := B0.frozen 3
      go_wp2_with fail
      obtain ⟨pp, pb⟩ := RatV.put hY.1 B0
      have pc0 := pb.c0
      have pc1 := pb.c1
      have pc2 := pb.c2
      have pc3 := pb.c3
      refine bodyPost_ret (v := .agg #[.bool y0, .slice YA yd ye, .bool y1, .slice YA' yd' ye']) (by simp [results, Tryz.results62, go_sem, pc0, pc1, pc2, pc3]) rfl ?_
      exact ⟨_, rfl, ⟨pp, hY.2⟩, (((hx.set hw0 _).set hw0 _).set hw0 _).set hw0 _⟩
end Go.Proofs.YtljncdcjkdgkeaaGreatDoor.Lp

namespace Go.Proofs.YtljncdcjkdgkeaaGreatDoor.Lp
open Go.Proofs.YtljncdcjkdgkeaaGreatDoor.Big Go.Proofs.YtljncdcjkdgkeaaGreatDoor.Rt

theorem QB_one {k : Nat} (h : 0 < k) : QB k 1 := ⟨B_one h, B_one h⟩
theorem Bnd.of {p : Prob} (hv : p.Vrel) (k h hr hd : Nat) (hk : p.n ≤ k ∨ p.m ≤ k) (h1 : 2 ≤ h) (hrr : h ≤ hr) (hdd : h ≤ hd) (hK : bK3 p.m k h hr hd ≤ 134217728)
    (ho : ∀ j, j < p.n → QB hd (p.obj j)) (hc : ∀ i, i < p.m → ∀ j, j < p.n → QB h (p.coef i j)) (hb : ∀ i, i < p.m → QB hr (p.right i)) : Bnd p (bK3 p.m k h hr hd) := by
  have hA := Prob.T0_bnd QB_mag (p := p) (h0 := h) (by omega) (QB_one (by omega)) hc
  have hW := Prob.T0_bndW QB_mag (p := p) hb
  have g1 : h ≤ bK3 p.m k h hr hd := by have := bK3_ge p.m k h hr hd; omega
  have hD1 : ∀ j, j ≤ p.W → QB hd (p.D1 j) := fun j _ => by
    unfold Prob.D1
    split
    · exact QB_one (by omega)
    · exact QB_zero (by omega)
  have hD2 : ∀ j, j ≤ p.W → QB hd (p.D2 j) := fun j _ => by
    unfold Prob.D2
    split
    · next hj => exact QB_neg (ho j hj)
    · exact QB_zero (by omega)
  have hK2 := bK3_ge p.m k h hr hd
  have key : ∀ {D : Nat → Rat} {s : St}, (∀ j, j ≤ p.W → QB hd (D j)) → Inv p.m p.W p.T0 p.un D s.R s.C s.b → (∀ i, i < p.m → ∀ j, j ≤ p.W → QB (bK3 p.m k h hr hd) (s.R i j)) ∧ (∀ j, j ≤ p.W → QB (bK3 p.m k h hr hd) (s.C j)) := fun hD hI =>
    ⟨fun i hi j hj => QB_mono hK2.1 (Prob.bnd2 QB_mag hv hI hk (by omega) hA hW i hi j hj), Prob.bnd3 QB_mag hv hI hk (by omega) hA hW hD⟩
  refine ⟨hK, by omega, fun j hj => QB_mono hK2.2 (ho j hj), fun i hi j hj => QB_mono g1 (hc i hi j hj), fun i hi => QB_mono ?_ (hb i hi), ?_, ?_, ?_, ?_, ?_⟩
  · have : hr ≤ bK2 p.m k h hr := by
      unfold bK2
      have : 1 * (grow k h + hr + 1) ≤ p.m * (grow k h + hr + 1) := Nat.mul_le_mul_right _ (by omega)
      omega
    omega
  · intro s hs
    obtain ⟨a, c⟩ := key hD1 hs.inv
    exact ⟨a, c, hs.inv.bW⟩
  · intro i hi
    exact Prob.bndR QB_mag hv (Prob.inv0 hv p.D1) hi hk (by omega) hA hW hD1
  · intro i hi
    exact key hD1 (exL_inv (Prob.end1 hv).inv i hi)
  · intro i hi
    exact Prob.bndR QB_mag hv (exL_inv (Prob.end1 hv).inv p.m (Nat.le_refl _)) hi hk (by omega) hA hW hD2
  · intro s hs
    obtain ⟨a, c⟩ := key hD2 hs.way.inv
    exact ⟨a, c, hs.way.inv.bW⟩
end Go.Proofs.YtljncdcjkdgkeaaGreatDoor.Lp

namespace Go.Proofs.YtljncdcjkdgkeaaGreatDoor.Lp
open Go.RowKit Go.Proofs.YtljncdcjkdgkeaaGreatDoor.Big Go.Proofs.YtljncdcjkdgkeaaGreatDoor.Rt

theorem Prob.D2_mult (p : Prob) (C : Nat → Rat) (i : Nat) : muV p.art C p.un p.flip 0 i = p.mult p.D2 C i := by
  unfold muV Prob.mult Prob.sg
  rw [Prob.D2_un]
  have : (if p.art ≤ p.un i then (0 : Rat) else 0) = 0 := by split <;> rfl
  rw [this]
  split <;> grind
theorem Prob.D1_mult {p : Prob} (hv : p.Vrel) (C : Nat → Rat) {i : Nat} (hi : i < p.m) : muV p.art C p.un p.flip (-1) i = p.mult p.D1 C i := by
  unfold muV Prob.mult Prob.sg
  rw [Prob.D1_un hv hi]
  split <;> split <;> grind
theorem pt_bound {m W : Nat} {R : Nat → Nat → Rat} {b : Nat → Nat} {K : Nat} (hK : 0 < K) (hR : ∀ i, i < m → QB K (R i W)) (hinj : ∀ k l, k < m → l < m → b k = b l → k = l) (j : Nat) : QB K (pt m W R b j) := by
  unfold pt
  by_cases h : ∃ k, k < m ∧ b k = j
  · obtain ⟨k, hk, e⟩ := h
    rw [sm_only hk (fun l hl hne => if_neg (fun e' => hne (hinj l k hl hk (e'.trans e.symm)))), if_pos e]
    exact hR k hk
  · rw [sm_zero' (fun k hk => if_neg (fun e => h ⟨k, hk, e⟩))]
    exact QB_zero hK
theorem mult_bound {p : Prob} {D C : Nat → Rat} {K i : Nat} (hC : QB K (C (p.un i))) (hD : QB 1 (D (p.un i))) : QB (K + 1 + 1) (p.mult D C i) := by
  unfold Prob.mult Prob.sg
  have h := QB_mag.sub hC hD
  split
  · exact QB_neg h
  · exact h
/-- what Solve answers -/
def Res (p : Prob) (k : Int) (z : Rat) (nx : Nat) (xs : Nat → Rat) (ny : Nat) (ys : Nat → Rat) : Prop :=
  (validB p = false ∧ k = 3 ∧ z = 0 ∧ nx = 0 ∧ ny = 0) ∨ (validB p = true ∧ k = p.sol.err ∧ z = p.sol.val ∧ ((k = 0 ∧ nx = p.n ∧ ny = p.m ∧ p.sol = .opt z xs ys) ∨ (k ≠ 0 ∧ nx = 0 ∧ ny = 0)))
def SolPost (w : World) (p : Prob) (K : Nat) (e : Ending) (w' : World) : Prop :=
  ∃ q A n c q' A' n' c' Ax nx cx Ay ny cy k z xs ys, e = .returned (.tuple #[.agg #[.bool q, .slice A n c, .bool q', .slice A' n' c', .slice Ax nx cx, .slice Ay ny cy], .int .i64 k]) ∧ RatB w' (.agg #[.bool q, .slice A n c, .bool q', .slice A' n' c']) z (K + 2) ∧
    RatsV w' Ax nx cx xs ∧ RatsV w' Ay ny cy ys ∧ (∀ j, j < nx → QB (K + 2) (xs j)) ∧ (∀ i, i < ny → QB (K + 2) (ys i)) ∧ Res p k z nx xs ny ys ∧ Ext w w'
theorem RatsV.none (w : World) (f : Nat → Rat) : RatsV w none 0 0 f := ⟨by omega, by omega, fun h => absurd h (by omega)⟩
theorem sol_zero (w w' : World) (p : Prob) (K : Nat) (k : Int) (hx : Ext w w') (h : (validB p = false ∧ k = 3) ∨ (validB p = true ∧ k = p.sol.err ∧ 0 = p.sol.val ∧ k ≠ 0)) : SolPost w p K (noSol k) w' :=
  ⟨_, _, _, _, _, _, _, _, _, 0, _, _, 0, _, k, 0, fun _ => 0, fun _ => 0, rfl, ⟨RatV.zero w', QB_zero (by omega)⟩, RatsV.none _ _, RatsV.none _ _, fun j hj => absurd hj (by omega), fun j hj => absurd hj (by omega), h.elim (fun h => .inl ⟨h.1, h.2, rfl, rfl, rfl⟩) (fun h => .inr ⟨h.1, h.2.1, h.2.2.1, .inr ⟨h.2.2.2, rfl, rfl⟩⟩), hx⟩
theorem sol_inf {p : Prob} (h : p.s1.C p.W ≠ 0) : p.sol = .inf (p.mult p.D1 p.s1.C) := by unfold Prob.sol; rw [if_pos h]
theorem sol_unb {p : Prob} (h : p.s1.C p.W = 0) (h2 : entL p.s2.C p.s2.stalled p.art ≠ none) : p.sol = .unb := by unfold Prob.sol; rw [if_neg (fun h' => h' h), if_neg h2]
theorem sol_opt {p : Prob} (h : p.s1.C p.W = 0) (h2 : entL p.s2.C p.s2.stalled p.art = none) : p.sol = .opt (p.s2.C p.W) (pt p.m p.W p.s2.R p.s2.b) (p.mult p.D2 p.s2.C) := by unfold Prob.sol; rw [if_neg (fun h' => h' h), if_pos h2]
theorem Solve_l (v : Value) (p : Prob) (K : Nat) (w : World) (hv : ProbV w v p) (hb : validB p = true → Bnd p K) : Calls Tryz.prog 109 #[v] w (SolPost w p K) := by
  refine (Solve_b v p K w hv hb).mono ?_
  rintro e w' ⟨hx, h⟩
  rcases h with ⟨h1, rfl⟩ | ⟨h1, h2, rfl⟩ | ⟨h1, h2, h3, rfl⟩ | ⟨h1, h2, h3, q, A, n, c, q', A', n', c', bx, by', rfl, hz, hX, hY, -⟩
  · exact sol_zero w w' p K 3 hx (.inl ⟨h1, rfl⟩)
  · have e := sol_inf h2
    exact sol_zero w w' p K 17 hx (.inr ⟨h1, by rw [e]; rfl, by rw [e]; rfl, by decide⟩)
  · have e := sol_unb h2 h3
    exact sol_zero w w' p K 18 hx (.inr ⟨h1, by rw [e]; rfl, by rw [e]; rfl, by decide⟩)
  · have e := sol_opt h2 h3
    have hp := validB_iff.1 h1
    have hB := hb h1
    have hE := Prob.end2 hp.vrel h2
    obtain ⟨b1, b2, b3⟩ := hB.way2 _ hE
    have hn : p.n ≤ 1000 := hp.2.1
    have hm : p.m ≤ 1000 := hp.2.2.1
    refine ⟨q, A, n, c, q', A', n', c', _, p.n, p.n, _, p.m, p.m, 0, p.s2.C p.W, _, p.mult p.D2 p.s2.C, rfl, ⟨hz, QB_mono (by omega) (b2 p.W (Nat.le_refl _))⟩, ⟨Nat.le_refl _, by omega, fun _ => ⟨bx, rfl, hX⟩⟩,
      ⟨Nat.le_refl _, by omega, fun _ => ⟨by', rfl, hY.congr (fun i _ => p.D2_mult _ i)⟩⟩, fun j _ => QB_mono (by omega) (pt_bound (K := K) (by have := hB.one; omega) (fun i hi => b1 i hi p.W (Nat.le_refl _)) (fun k l hk hl e => hE.way.inv.inj hk hl e) j), fun i hi => mult_bound (b2 _ (Nat.le_of_lt (Prob.un_lt hp.vrel hi))) (by rw [Prob.D2_un]; exact QB_zero (by omega)),
      .inr ⟨h1, by rw [e]; rfl, by rw [e]; rfl, .inl ⟨rfl, rfl, rfl, e⟩⟩, hx⟩
def FarPost (w : World) (p : Prob) (K : Nat) (e : Ending) (w' : World) : Prop :=
  ∃ A n c ok ys, e = .returned (.tuple #[.slice A n c, .bool ok]) ∧ RatsV w' A n c ys ∧ (∀ i, i < n → QB (K + 2) (ys i)) ∧ ((ok = true ∧ validB p = true ∧ n = p.m ∧ p.sol = .inf ys) ∨ (ok = false ∧ n = 0 ∧ (validB p = true → p.sol.err ≠ 17))) ∧ Ext w w'
theorem Farkas_l (v : Value) (p : Prob) (K : Nat) (w : World) (hv : ProbV w v p) (hb : validB p = true → Bnd p K) : Calls Tryz.prog 110 #[v] w (FarPost w p K) := by
  refine (Farkas_b v p K w hv hb).mono ?_
  rintro e w' ⟨hx, h⟩
  rcases h with ⟨h1, h2, b, rfl, hY, -⟩ | ⟨h1, rfl⟩
  · have hp := validB_iff.1 h1
    have hB := hb h1
    obtain ⟨b1, b2, b3⟩ := hB.way _ (Prob.end1 hp.vrel)
    have hm : p.m ≤ 1000 := hp.2.2.1
    refine ⟨_, p.m, p.m, true, p.mult p.D1 p.s1.C, rfl, ⟨Nat.le_refl _, by omega, fun _ => ⟨b, rfl, hY.congr (fun i hi => Prob.D1_mult hp.vrel _ hi)⟩⟩, fun i hi => mult_bound (b2 _ (Nat.le_of_lt (Prob.un_lt hp.vrel hi))) ?_, .inl ⟨rfl, h1, rfl, sol_inf h2⟩, hx⟩
    rw [Prob.D1_un hp.vrel hi]
    split
    · exact QB_one (by omega)
    · exact QB_zero (by omega)
  · refine ⟨_, 0, _, false, fun _ => 0, rfl, RatsV.none _ _, fun i hi => absurd hi (by omega), .inr ⟨rfl, rfl, fun hv' => ?_⟩, hx⟩
    have h2 := h1 hv'
    by_cases h3 : entL p.s2.C p.s2.stalled p.art = none
    · rw [sol_opt h2 h3]; show (0 : Int) ≠ 17; decide
    · rw [sol_unb h2 h3]; show (18 : Int) ≠ 17; decide
end Go.Proofs.YtljncdcjkdgkeaaGreatDoor.Lp

namespace Go.Proofs.YtljncdcjkdgkeaaGreatDoor.Lp
open Go.RowKit Go.Proofs.YtljncdcjkdgkeaaGreatDoor.Big Go.Proofs.YtljncdcjkdgkeaaGreatDoor.Rt

theorem qn_int (n : Int) : qn n 0 = (n : Rat) := by
  unfold qn
  show Rat.divInt n 1 = (n : Rat)
  obtain ⟨a, b⟩ := divInt_one' n
  exact Rat.ext (by rw [a]; rfl) (by rw [b]; rfl)
theorem qn_bound {n : Int} {d : Nat} (h : in32 n) : QB 2 (qn n d) := by
  have h1 : B 2 n := by
    unfold B; rw [pw_two_eq]
    have := h.1; have := h.2; omega
  have h2 : B 2 (1 + ((d % 6 : Nat) : Int)) := by
    unfold B; rw [pw_two_eq]; omega
  have := QB_red h1 h2 (by omega)
  simpa [qn] using this
theorem in32_zero : in32 0 := ⟨by decide, by decide⟩
theorem in32_get {l : List Int} (h : ∀ z ∈ l, in32 z) (j : Nat) : in32 (l.getD j 0) := by
  rw [List.getD_eq_getElem?_getD]
  cases e : l[j]? with
  | none => exact in32_zero
  | some a => exact h a (List.mem_of_getElem? e)
theorem IP.obj_b {p : IP} (h : p.ok) (j : Nat) : QB 2 (p.pl.toP.obj j) := by
  show QB 2 ((p.obj.map (qn · p.den)).getD j 0)
  rw [qn_get]; exact qn_bound (in32_get h.1 j)
theorem IP.row_some {p : IP} {i : Nat} (hi : i < p.pl.toP.m) : ∃ r, p.rows[i]? = some r ∧ p.pl.rows.getD i RL.zero = r.rl p.den := by
  have hi' : i < p.rows.length := by simpa [PL.toP, IP.pl] using hi
  exact ⟨_, List.getElem?_eq_getElem hi', IP.row (List.getElem?_eq_getElem hi')⟩
theorem IP.coef_b {p : IP} (h : p.ok) {i : Nat} (hi : i < p.pl.toP.m) (j : Nat) : QB 2 (p.pl.toP.coef i j) := by
  obtain ⟨r, h1, h2⟩ := IP.row_some hi
  show QB 2 ((p.pl.rows.getD i RL.zero).coef.getD j 0)
  rw [h2]
  show QB 2 ((r.coef.map (qn · p.den)).getD j 0)
  rw [qn_get]; exact qn_bound (in32_get (h.2.2.2.2 r (List.mem_of_getElem? h1)).1 j)
theorem IP.right_b {p : IP} (h : p.ok) {i : Nat} (hi : i < p.pl.toP.m) : QB 2 (p.pl.toP.right i) := by
  obtain ⟨r, h1, h2⟩ := IP.row_some hi
  show QB 2 (p.pl.rows.getD i RL.zero).right
  rw [h2]
  exact qn_bound (h.2.2.2.2 r (List.mem_of_getElem? h1)).2.1
theorem Bnd.up {p : Prob} {K K' : Nat} (h : Bnd p K) (hK : K ≤ K') (hK' : K' ≤ 134217728) : Bnd p K' :=
  ⟨hK', Nat.le_trans h.one hK, fun j hj => QB_mono hK (h.obj j hj), fun i hi j hj => QB_mono hK (h.coef i hi j hj), fun i hi => QB_mono hK (h.right i hi),
    fun s hs => ⟨fun i hi j hj => QB_mono hK ((h.way s hs).1 i hi j hj), fun j hj => QB_mono hK ((h.way s hs).2.1 j hj), (h.way s hs).2.2⟩, fun i hi j hj => QB_mono hK (h.red1 i hi j hj),
    fun i hi => ⟨fun k hk j hj => QB_mono hK ((h.exp i hi).1 k hk j hj), fun j hj => QB_mono hK ((h.exp i hi).2 j hj)⟩, fun i hi j hj => QB_mono hK (h.red2 i hi j hj),
    fun s hs => ⟨fun i hi j hj => QB_mono hK ((h.way2 s hs).1 i hi j hj), fun j hj => QB_mono hK ((h.way2 s hs).2.1 j hj), (h.way2 s hs).2.2⟩⟩
theorem bK2_mono {m m' k k' h hr hr' : Nat} (hm : m ≤ m') (hk : k ≤ k') (hh : hr ≤ hr') : bK2 m k h hr ≤ bK2 m' k' h hr' := by
  unfold bK2
  have h1 := grow_mono h hk
  have := Nat.mul_le_mul hm (show grow k h + hr + 1 ≤ grow k' h + hr' + 1 by omega)
  omega
theorem bK3_mono {m m' k k' h hr hr' hd : Nat} (hm : m ≤ m') (hk : k ≤ k') (hh : hr ≤ hr') : bK3 m k h hr hd ≤ bK3 m' k' h hr' hd := by
  unfold bK3
  have h1 := bK2_mono (h := h) hm hk hh
  have := Nat.mul_le_mul hm (show hd + bK2 m k h hr + 1 ≤ hd + bK2 m' k' h hr' + 1 by omega)
  omega
theorem IP.bnd {p : IP} (h : p.ok) (hn : p.pl.toP.n ≤ 8) (hm : p.pl.toP.m ≤ 9) (hv : validB p.pl.toP = true) : Bnd p.pl.toP 16000000 := by
  have hr := (validB_iff.1 hv).vrel
  have h1 : bK3 p.pl.toP.m 8 2 2 2 ≤ bK3 9 8 2 2 2 := bK3_mono hm (Nat.le_refl _) (Nat.le_refl _)
  have h2 : bK3 9 8 2 2 2 ≤ 16000000 := by decide
  exact (Bnd.of hr 8 2 2 2 (.inl hn) (by omega) (by omega) (by omega) (by omega) (fun j _ => IP.obj_b h j) (fun i hi j _ => IP.coef_b h hi j) (fun i hi => IP.right_b h hi)).up (by omega) (by omega)

/-! the examples -/
def ip1 : IP := ⟨[3, 2], [⟨[1, 1], 1, 4⟩, ⟨[1, 3], 1, 6⟩], 0⟩
def ip2 : IP := ⟨[0, 0], [⟨[1, 1], 1, -1⟩], 0⟩
theorem ip1_ok : ip1.ok := by
  refine ⟨fun z hz => ?_, by decide, by decide, by decide, fun r hr => ?_⟩
  · simp [ip1] at hz; rcases hz with rfl | rfl <;> exact ⟨by decide, by decide⟩
  · simp [ip1] at hr
    rcases hr with rfl | rfl
    · exact ⟨fun z hz => by simp at hz; subst hz; exact ⟨by decide, by decide⟩, ⟨by decide, by decide⟩, by decide, by decide⟩
    · exact ⟨fun z hz => by simp at hz; rcases hz with rfl | rfl <;> exact ⟨by decide, by decide⟩, ⟨by decide, by decide⟩, by decide, by decide⟩
theorem ip2_ok : ip2.ok := by
  refine ⟨fun z hz => ?_, by decide, by decide, by decide, fun r hr => ?_⟩
  · simp [ip2] at hz; subst hz; exact ⟨by decide, by decide⟩
  · simp [ip2] at hr
    subst hr
    exact ⟨fun z hz => by simp at hz; subst hz; exact ⟨by decide, by decide⟩, ⟨by decide, by decide⟩, by decide, by decide⟩
theorem ip1_valid : validB ip1.pl.toP = true := by decide +kernel
theorem ip2_valid : validB ip2.pl.toP = true := by decide +kernel
theorem ip1_le {x : Nat → Rat} (h : ip1.pl.toP.Feas x) : 0 ≤ x 0 ∧ 0 ≤ x 1 ∧ x 0 + x 1 ≤ 4 ∧ dot ip1.pl.toP.n ip1.pl.toP.obj x = 3 * x 0 + 2 * x 1 := by
  have h0 := h.1 0 (by decide)
  have h1 := h.1 1 (by decide)
  have h2 := (h.2 0 (by decide)).1 rfl
  have e0 : ip1.pl.toP.coef 0 0 = 1 := by decide +kernel
  have e1 : ip1.pl.toP.coef 0 1 = 1 := by decide +kernel
  have e2 : ip1.pl.toP.right 0 = 4 := by decide +kernel
  have e3 : ip1.pl.toP.obj 0 = 3 := by decide +kernel
  have e4 : ip1.pl.toP.obj 1 = 2 := by decide +kernel
  have d1 : dot ip1.pl.toP.n (ip1.pl.toP.coef 0) x = 0 + ip1.pl.toP.coef 0 0 * x 0 + ip1.pl.toP.coef 0 1 * x 1 := rfl
  have d2 : dot ip1.pl.toP.n ip1.pl.toP.obj x = 0 + ip1.pl.toP.obj 0 * x 0 + ip1.pl.toP.obj 1 * x 1 := rfl
  rw [e0, e1] at d1
  rw [e3, e4] at d2
  rw [d1, e2] at h2
  exact ⟨h0, h1, by grind, by grind⟩
theorem ip1_sol : ∃ x y, ip1.pl.toP.sol = .opt 12 x y ∧ x 0 = 4 ∧ x 1 = 0 := by
  have hr := (validB_iff.1 ip1_valid).vrel
  have hi := Prob.is hr
  have hV : ip1.pl.toP.V 12 := by
    refine ⟨fun j => if j = 0 then 4 else 0, ⟨fun j _ => ?_, fun i hi => ?_⟩, by decide +kernel⟩
    · show (0 : Rat) ≤ if j = 0 then 4 else 0
      split <;> decide
    · have hi' : i < 2 := hi
      rcases (show i = 0 ∨ i = 1 by omega) with rfl | rfl
      · exact ⟨fun _ => by decide +kernel, fun e => absurd e (by decide), fun e => absurd e (by decide)⟩
      · exact ⟨fun _ => by decide +kernel, fun e => absurd e (by decide), fun e => absurd e (by decide)⟩
  have hle : ∀ v, ip1.pl.toP.V v → v ≤ 12 := by
    rintro v ⟨x, hx, rfl⟩
    obtain ⟨a, b, c, d⟩ := ip1_le hx
    rw [d]; grind
  obtain ⟨h1, h2⟩ := hi.opt hV hle
  have ha := Prob.sol_ans hr
  cases e : ip1.pl.toP.sol with
  | opt z x y =>
    rw [e] at h2 ha
    obtain ⟨g1, g2, -⟩ := ha
    have hz : z = 12 := h2
    obtain ⟨a, b, c, d⟩ := ip1_le g1
    rw [g2, hz] at d
    exact ⟨x, y, by rw [hz], by grind, by grind⟩
  | inf y => rw [e] at h1; cases h1
  | unb => rw [e] at h1; cases h1
theorem ip2_sol : ∃ y, ip2.pl.toP.sol = .inf y := by
  have hr := (validB_iff.1 ip2_valid).vrel
  have hi := Prob.is hr
  have hno : ∀ v, ¬ ip2.pl.toP.V v := by
    rintro v ⟨x, hx, -⟩
    have h0 := hx.1 0 (by decide)
    have h1 := hx.1 1 (by decide)
    have h2 := (hx.2 0 (by decide)).1 rfl
    have e0 : ip2.pl.toP.coef 0 0 = 1 := by decide +kernel
    have e1 : ip2.pl.toP.coef 0 1 = 1 := by decide +kernel
    have e2 : ip2.pl.toP.right 0 = -1 := by decide +kernel
    have d1 : dot ip2.pl.toP.n (ip2.pl.toP.coef 0) x = 0 + ip2.pl.toP.coef 0 0 * x 0 + ip2.pl.toP.coef 0 1 * x 1 := rfl
    rw [e0, e1] at d1
    rw [d1, e2] at h2
    grind
  obtain ⟨h1, -⟩ := hi.inf hno
  cases e : ip2.pl.toP.sol with
  | opt z x y => rw [e] at h1; cases h1
  | inf y => exact ⟨y, rfl⟩
  | unb => rw [e] at h1; cases h1
end Go.Proofs.YtljncdcjkdgkeaaGreatDoor.Lp
