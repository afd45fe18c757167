/- Walks: product, Value. Plain: Bnd, from bounds of a problem's numbers. Solve and Farkas: contracts in one form. What the laws' numbers are bounded by; the examples of the chapter (plain). -/
import Derived.Test.YtljncdcjkdgkeaaGreatDoorXLN2
import Derived.Test.YtljncdcjkdgkeaaGreatDoorXLSC
import Derived.Test.YtljncdcjkdgkeaaGreatDoorXT6
import Derived.Test.YtljncdcjkdgkeaaGreatDoorXLJ
import Derived.MapKept
import Derived.LaidEqlPtr
import Derived.Carry
import Derived.Test.YtljncdcjkdgkeaaGreatDoorXShelf
import Derived.BigQuiet
import Derived.Test.YtljncdcjkdgkeaaGreatDoorXLN3
set_option linter.unusedVariables false
set_option linter.unusedSimpArgs false
namespace Go.Proofs.YtljncdcjkdgkeaaGreatDoor.Lp
open Go.RowKit Go.Proofs.YtljncdcjkdgkeaaGreatDoor.Big Go.Proofs.YtljncdcjkdgkeaaGreatDoor.Rt
theorem qkw {k : Nat} (h : 0 < k) : QB k 0 := by
 have h1 := pw_le h
 rw [qfj] at h1
 exact ⟨by show (0 : Int).natAbs < pw k; simp; omega, by show ((1 : Nat) : Int).natAbs < pw k; simp; omega⟩
theorem qb2 : Mag QB :=
 ⟨fun h b => qqj h b, qwg, fun {j k x y} a b => by rw [Rat.sub_eq_add_neg]; exact qa4 a (qwg b), qa4, qvy, fun a b h => QB_div a b (fun e => h (Rat.num_eq_zero.1 e)), qkw⟩
theorem qt6 {q : Rat} (h : q ≠ 0) : (q.num.sign != 0) = true := by
 have := q9n (x := q.num) (fun e => h (Rat.num_eq_zero.1 e)); simpa using this
theorem q57 {q : Rat} (h : q = 0) : (q.num.sign != 0) = false := by rw [h]; rfl
set_option maxHeartbeats 8000000 in
theorem qtg (Aa Ab : Option Addr) (n ca cb : Nat) (f g : Nat → Rat) (Kf Kg T : Nat) (w : World) (ha : q94 w Aa n ca f) (hb : q94 w Ab n cb g)
 (hf : ∀ j, j < n → QB Kf (f j)) (hg : ∀ j, j < n → QB Kg (g j)) (hn : n ≤ 1099511627776) (hT : 1 + n * (Kf + Kg + 1) ≤ T) (hT2 : T ≤ 137438953472) (hT3 : Kf + Kg ≤ 137438953472) :
 Calls Tryz.prog 62 #[.slice Aa n ca, .slice Ab n cb] w (q3z w (dot n f g) T) := by
 have HS : Hid (∀ j, j ≤ n → QB T (sm j (fun i => f i * g i))) := Lib.hid (fun j hj => qqj (Nat.le_trans (by have := Nat.mul_le_mul_right (Kf + Kg + 1) hj; omega) hT) (qb2.sum j (c := Kf + Kg) (fun i hi => qvy (hf i (by omega)) (hg i (by omega)))))
 have HF := Lib.hid hf
 have HG := Lib.hid hg
 have hca := ha.1
 have hcb := hb.1
 clear hf hg hT
 obtain ⟨D, hD⟩ : ∃ D, D = dot n f g := ⟨_, rfl⟩
 rw [← hD]
 have HD : Hid (D = sm n (fun i => f i * g i)) := Lib.hid hD
 clear hD
 obtain ⟨B0, B1, hE0⟩ := qc5 w 58 #[.bool false, .slice none 0 0, .bool false, .slice none 0 0] #[.bool false, .slice none 0 0, .bool false, .slice none 0 0]
 go_enter Tryz.func62, Tryz.ntmps62
 go_upto_region 2 with fail
 generalize ((w.alloc (.cells #[.bool false, .slice none 0 0, .bool false, .slice none 0 0] 58)).alloc (.cells #[.bool false, .slice none 0 0, .bool false, .slice none 0 0] 58)) = V at *
 obtain ⟨b1, hb1⟩ : ∃ x, x = w.heap.size + 1 := ⟨_, rfl⟩
 obtain ⟨b0, hb0⟩ : ∃ x, x = w.heap.size := ⟨_, rfl⟩
 rw [← hb1] at B1 ⊢
 rw [← hb0] at B0 ⊢
 have hw1 : w.heap.size ≤ b1 := by omega
 have hw0 : w.heap.size ≤ b0 := by omega
 have h01 : b0 ≠ b1 := by omega
 clear hb1 hb0
 go_wp2_with fail
 go_loopw [10] (fun i wr => ∃ j : Nat, j ≤ n ∧ i = .int .i64 j ∧ RBox wr b1 (sm j (fun i => f i * g i)) T ∧ Box wr b0 58 #[.bool false, .slice none 0 0, .bool false, .slice none 0 0] ∧ Ext w wr) (fun i _ => n - (intOf i).toNat)
 case atStart => exact ⟨0, by omega, rfl, ⟨_, _, _, _, _, _, _, _, B1, RatV.zero _, HS.out 0 (by omega)⟩, B0, hE0⟩
 case round =>
  clear B0 B1 hE0
  obtain ⟨j, hj, rfl, HR, B0, hx⟩ := hrel
  by_cases hlt : j < n
  ·obtain ⟨ba, rfl, hRa⟩ := ha.2.2 (by omega)
   obtain ⟨bb, rfl, hRb⟩ := hb.2.2 (by omega)
   obtain ⟨p1, A1, m1, c1, p1', A1', m1', c1', e0, e1, e2, e3, hr⟩ := (hRa.ext hx).at hlt
   obtain ⟨p2, A2, m2, c2, p2', A2', m2', c2', g0, g1, g2, g3, hr2⟩ := (hRb.ext hx).at hlt
   have hi1 : (0 : Int) ≤ (j : Int) := by omega
   have hi2 : (j : Int) < (n : Int) := by omega
   go_upto_region 5 with fail
   have Bx := Box.new wr 58 #[.bool p1, .slice A1 m1 c1, .bool p1', .slice A1' m1' c1']
   have hEx : Ext wr (wr.alloc (.cells #[.bool p1, .slice A1 m1 c1, .bool p1', .slice A1' m1' c1'] 58)) := (Ext.refl wr).alloc _
   generalize (wr.alloc (.cells #[.bool p1, .slice A1 m1 c1, .bool p1', .slice A1' m1' c1'] 58)) = U at *
   have hr := hr.ext hEx
   have hr2 := hr2.ext hEx
   have HR := HR.ext hEx
   have B0 := B0.ext hEx
   have hx := hx.trans hEx
   have g0 := hEx.cell g0
   have g1 := hEx.cell g1
   have g2 := hEx.cell g2
   have g3 := hEx.cell g3
   have x0 := Bx.c0
   have x1 := Bx.c1
   have x2 := Bx.c2
   have x3 := Bx.c3
   clear e0 e1 e2 e3 hEx
   have HNX : Hid (sm (j + 1) (fun i => f i * g i) = sm j (fun i => f i * g i) + f j * g j) := Lib.hid rfl
   obtain ⟨F, hF⟩ : ∃ F, F = f j := ⟨_, rfl⟩
   obtain ⟨G, hG⟩ : ∃ F, F = g j := ⟨_, rfl⟩
   have HQF := Lib.hid (HF.out j hlt)
   have HQG := Lib.hid (HG.out j hlt)
   rw [← hF] at hr HQF HNX
   rw [← hG] at hr2 HQG HNX
   obtain ⟨S, hS⟩ : ∃ S, S = sm j (fun i => f i * g i) := ⟨_, rfl⟩
   rw [← hS] at HR HNX
   clear hF hG hS
   go_wp2_with fail
   refine (qpl _ F Kf _ ⟨hr, HQF.out⟩).mono ?_
   rintro e w1 ⟨rfl, hx1⟩
   have hr := hr.ext hx1
   have hr2 := hr2.ext hx1
   have HR := HR.ext hx1
   have B0 := B0.ext hx1
   have Bx := Bx.ext hx1
   have hx := hx.trans hx1
   have g0 := hx1.cell g0
   have g1 := hx1.cell g1
   have g2 := hx1.cell g2
   have g3 := hx1.cell g3
   obtain ⟨sg, hsg⟩ : ∃ s, s = F.num.sign := ⟨_, rfl⟩
   rw [← hsg]
   by_cases hF0 : F = 0
   ·have e5 : (sg != 0) = false := by rw [hsg]; exact q57 hF0
    have HN : Hid (sm (j + 1) (fun i => f i * g i) = S) := Lib.hid (by rw [HNX.out, hF0]; grind)
    clear hsg hF0 x0 x1 x2 x3
    go_wp2_with fail
    go_roundw
    case rel => exact ⟨j + 1, by omega, by go_num, by rw [HN.out]; exact HR, B0, hx⟩
    case measure => simp [intOf]; omega
   ·have e5 : (sg != 0) = true := by rw [hsg]; exact qt6 hF0
    clear hsg hF0 x0 x1 x2 x3
    go_wp2_with fail
    refine (qpl _ G Kg _ ⟨hr2, HQG.out⟩).mono ?_
    rintro e w2 ⟨rfl, hx2⟩
    have hr := hr.ext hx2
    have hr2 := hr2.ext hx2
    have HR := HR.ext hx2
    have B0 := B0.ext hx2
    have Bx := Bx.ext hx2
    have hx := hx.trans hx2
    have g0 := hx2.cell g0
    have g1 := hx2.cell g1
    have g2 := hx2.cell g2
    have g3 := hx2.cell g3
    obtain ⟨sh, hsh⟩ : ∃ s, s = G.num.sign := ⟨_, rfl⟩
    rw [← hsh]
    by_cases hG0 : G = 0
    ·have e6 : (sh != 0) = false := by rw [hsh]; exact q57 hG0
     have HN : Hid (sm (j + 1) (fun i => f i * g i) = S) := Lib.hid (by rw [HNX.out, hG0]; grind)
     clear hsh hG0
     go_wp2_with fail
     go_roundw
     case rel => exact ⟨j + 1, by omega, by go_num, by rw [HN.out]; exact HR, B0, hx⟩
     case measure => simp [intOf]; omega
    ·have e6 : (sh != 0) = true := by rw [hsh]; exact qt6 hG0
     clear hsh hG0
     obtain ⟨y0, y1, YA, YA', yd, ye, yd', ye', BY, hY⟩ := HR
     have hFB : RatB w2 _ F Kf := ⟨hr, HQF.out⟩
     have hGB : RatB w2 _ G Kg := ⟨hr2, HQG.out⟩
     have k20 : ∀ w', Later w2 w' → w'.cell? ⟨bb, j * 4, none⟩ = some _ := fun w' h => Later.cell h g0
     have k21 : ∀ w', Later w2 w' → w'.cell? ⟨bb, j * 4 + 1, none⟩ = some _ := fun w' h => Later.cell h g1
     have k22 : ∀ w', Later w2 w' → w'.cell? ⟨bb, j * 4 + 2, none⟩ = some _ := fun w' h => Later.cell h g2
     have k23 : ∀ w', Later w2 w' → w'.cell? ⟨bb, j * 4 + 3, none⟩ = some _ := fun w' h => Later.cell h g3
     have kx0 : ∀ w', Later w2 w' → w'.cell? ⟨_, 0, none⟩ = some _ := fun w' h => (Bx.ext h).c0
     have kx1 : ∀ w', Later w2 w' → w'.cell? ⟨_, 1, none⟩ = some _ := fun w' h => (Bx.ext h).c1
     have kx2 : ∀ w', Later w2 w' → w'.cell? ⟨_, 2, none⟩ = some _ := fun w' h => (Bx.ext h).c2
     have kx3 : ∀ w', Later w2 w' → w'.cell? ⟨_, 3, none⟩ = some _ := fun w' h => (Bx.ext h).c3
     have ky0 : ∀ w', Later w2 w' → w'.cell? ⟨_, 0, none⟩ = some _ := fun w' h => (BY.ext h).c0
     have ky1 : ∀ w', Later w2 w' → w'.cell? ⟨_, 1, none⟩ = some _ := fun w' h => (BY.ext h).c1
     have ky2 : ∀ w', Later w2 w' → w'.cell? ⟨_, 2, none⟩ = some _ := fun w' h => (BY.ext h).c2
     have ky3 : ∀ w', Later w2 w' → w'.cell? ⟨_, 3, none⟩ = some _ := fun w' h => (BY.ext h).c3
     have ks := Later.refl w2
     clear g0 g1 g2 g3
     go_upto_region 6 with fail
     go_region_with (first
      | (go_at_call 87; (with_reducible refine (qmy _ _ _ _ _ _ _ (RatB.ext hFB eAx) (RatB.ext hGB eAx) (by omega)).mono ?_); rintro e wk ⟨vk, rfl, hbk, hxk⟩; (obtain ⟨pk, Ak, nk, ck, pk', Ak', nk', ck', rfl⟩ := hbk.1.shape); (have hkL : Later w2 wk := Ext.trans eBx hxk))
      | (go_at_call 47; (with_reducible refine (qcs _ _ _ _ _ _ _ (RatB.ext hY eAx) (RatB.ext hbk eAx) (by omega)).mono ?_); rintro e wl ⟨vl, rfl, hbl, hxl⟩; (obtain ⟨pl, Al, nl, cl, pl', Al', nl', cl', rfl⟩ := hbl.1.shape); (have hlL : Ext w2 wl := Ext.trans eAx hxl); (have BYl := BY.ext hlL); (have f0 := BYl.frozen 0); (have f1 := BYl.frozen 1); (have f2 := BYl.frozen 2); (have f3 := BYl.frozen 3); (have z0 := BYl.c0); (have z1 := BYl.c1); (have z2 := BYl.c2); (have z3 := BYl.c3))
      )
     all_goals (
      have hQ4 := (RatV.put hbl.1 BYl).1
      have hB4 := (RatV.put hbl.1 BYl).2
      have B0l := B0.ext hlL
      have hX4 := ((((hx.trans hlL).set (p := ⟨b1, 0, none⟩) hw1 (.bool pl)).set (p := ⟨b1, 1, none⟩) hw1 (.slice Al nl cl)).set (p := ⟨b1, 2, none⟩) hw1 (.bool pl')).set (p := ⟨b1, 3, none⟩) hw1 (.slice Al' nl' cl')
      have B04 := (((B0l.far (p := ⟨b1, 0, none⟩) h01 (.bool pl)).far (p := ⟨b1, 1, none⟩) h01 (.slice Al nl cl)).far (p := ⟨b1, 2, none⟩) h01 (.bool pl')).far (p := ⟨b1, 3, none⟩) h01 (.slice Al' nl' cl')
      have hRB := HS.out (j + 1) (by omega)
      rw [← HNX.out] at hQ4
      have HRN : RBox _ b1 _ T := ⟨_, _, _, _, _, _, _, _, hB4, hQ4, hRB⟩
      go_wp2_with fail
      go_roundw
      case rel => exact ⟨j + 1, by omega, by go_num, HRN, B04, hX4⟩
      case measure => simp [intOf]; omega)
  ·obtain rfl : j = n := by omega
   obtain ⟨y0, y1, YA, YA', yd, ye, yd', ye', BY, hY⟩ := HR
   rw [← HD.out] at hY
   have x0 := BY.c0
   have x1 := BY.c1
   have x2 := BY.c2
   have x3 := BY.c3
   have z0 := B0.c0
   have z1 := B0.c1
   have z2 := B0.c2
   have z3 := B0.c3
   have f0 := B0.frozen 0
   have f1 := B0.frozen 1
   have f2 := B0.frozen 2
   have f3 := B0.frozen 3
   go_wp2_with fail
   obtain ⟨pp, pb⟩ := RatV.put hY.1 B0
   have pc0 := pb.c0
   have pc1 := pb.c1
   have pc2 := pb.c2
   have pc3 := pb.c3
   refine bodyPost_ret (v := .agg #[.bool y0, .slice YA yd ye, .bool y1, .slice YA' yd' ye']) (by simp [results, Tryz.results62, go_sem, pc0, pc1, pc2, pc3]) rfl ?_
   exact ⟨_, rfl, ⟨pp, hY.2⟩, (((hx.set hw0 _).set hw0 _).set hw0 _).set hw0 _⟩
open Go.Proofs.YtljncdcjkdgkeaaGreatDoor.Big Go.Proofs.YtljncdcjkdgkeaaGreatDoor.Rt
theorem q9t {k : Nat} (h : 0 < k) : QB k 1 := ⟨B_one h, B_one h⟩
theorem Bnd.of {p : Prob} (hv : p.Vrel) (k h hr hd : Nat) (hk : p.n ≤ k ∨ p.m ≤ k) (h1 : 2 ≤ h) (hrr : h ≤ hr) (hdd : h ≤ hd) (hK : bK3 p.m k h hr hd ≤ 134217728)
 (ho : ∀ j, j < p.n → QB hd (p.obj j)) (hc : ∀ i, i < p.m → ∀ j, j < p.n → QB h (p.coef i j)) (hb : ∀ i, i < p.m → QB hr (p.right i)) : Bnd p (bK3 p.m k h hr hd) := by
 have hA := Prob.T0_bnd qb2 (p := p) (h0 := h) (by omega) (q9t (by omega)) hc
 have hW := Prob.T0_bndW qb2 (p := p) hb
 have g1 : h ≤ bK3 p.m k h hr hd := by have := bK3_ge p.m k h hr hd; omega
 have hD1 : ∀ j, j ≤ p.W → QB hd (p.D1 j) := fun j _ => by
  unfold Prob.D1
  split
  ·exact q9t (by omega)
  ·exact qkw (by omega)
 have hD2 : ∀ j, j ≤ p.W → QB hd (p.D2 j) := fun j _ => by
  unfold Prob.D2
  split
  ·next hj => exact qwg (ho j hj)
  ·exact qkw (by omega)
 have hK2 := bK3_ge p.m k h hr hd
 have key : ∀ {D : Nat → Rat} {s : St}, (∀ j, j ≤ p.W → QB hd (D j)) → Inv p.m p.W p.T0 p.un D s.R s.C s.b → (∀ i, i < p.m → ∀ j, j ≤ p.W → QB (bK3 p.m k h hr hd) (s.R i j)) ∧ (∀ j, j ≤ p.W → QB (bK3 p.m k h hr hd) (s.C j)) := fun hD hI =>
  ⟨fun i hi j hj => qqj hK2.1 (Prob.bnd2 qb2 hv hI hk (by omega) hA hW i hi j hj), Prob.bnd3 qb2 hv hI hk (by omega) hA hW hD⟩
 refine ⟨hK, by omega, fun j hj => qqj hK2.2 (ho j hj), fun i hi j hj => qqj g1 (hc i hi j hj), fun i hi => qqj ?_ (hb i hi), ?_, ?_, ?_, ?_, ?_⟩
 ·have : hr ≤ bK2 p.m k h hr := by
   unfold bK2
   have : 1 * (grow k h + hr + 1) ≤ p.m * (grow k h + hr + 1) := Nat.mul_le_mul_right _ (by omega)
   omega
  omega
 ·intro s hs
  obtain ⟨a, c⟩ := key hD1 hs.inv
  exact ⟨a, c, hs.inv.bW⟩
 ·intro i hi
  exact Prob.bndR qb2 hv (Prob.inv0 hv p.D1) hi hk (by omega) hA hW hD1
 ·intro i hi
  exact key hD1 (exL_inv (Prob.end1 hv).inv i hi)
 ·intro i hi
  exact Prob.bndR qb2 hv (exL_inv (Prob.end1 hv).inv p.m (Nat.le_refl _)) hi hk (by omega) hA hW hD2
 ·intro s hs
  obtain ⟨a, c⟩ := key hD2 hs.way.inv
  exact ⟨a, c, hs.way.inv.bW⟩
theorem Prob.D2_mult (p : Prob) (C : Nat → Rat) (i : Nat) : muV p.art C p.un p.flip 0 i = p.mult p.D2 C i := by
 unfold muV Prob.mult Prob.sg
 rw [Prob.D2_un]
 have : (if p.art ≤ p.un i then (0 : Rat) else 0) = 0 := by split <;> rfl
 rw [this]
 split <;> grind
theorem Prob.D1_mult {p : Prob} (hv : p.Vrel) (C : Nat → Rat) {i : Nat} (hi : i < p.m) : muV p.art C p.un p.flip (-1) i = p.mult p.D1 C i := by
 unfold muV Prob.mult Prob.sg
 rw [Prob.D1_un hv hi]
 split <;> split <;> grind
theorem pt_bound {m W : Nat} {R : Nat → Nat → Rat} {b : Nat → Nat} {K : Nat} (hK : 0 < K) (hR : ∀ i, i < m → QB K (R i W)) (hinj : ∀ k l, k < m → l < m → b k = b l → k = l) (j : Nat) : QB K (pt m W R b j) := by
 unfold pt
 by_cases h : ∃ k, k < m ∧ b k = j
 ·obtain ⟨k, hk, e⟩ := h
  rw [qfn hk (fun l hl hne => if_neg (fun e' => hne (hinj l k hl hk (e'.trans e.symm)))), if_pos e]
  exact hR k hk
 ·rw [qr4 (fun k hk => if_neg (fun e => h ⟨k, hk, e⟩))]
  exact qkw hK
theorem qog {p : Prob} {D C : Nat → Rat} {K i : Nat} (hC : QB K (C (p.un i))) (hD : QB 1 (D (p.un i))) : QB (K + 1 + 1) (p.mult D C i) := by
 unfold Prob.mult Prob.sg
 have h := qb2.sub hC hD
 split
 ·exact qwg h
 ·exact h
def Res (p : Prob) (k : Int) (z : Rat) (nx : Nat) (xs : Nat → Rat) (ny : Nat) (ys : Nat → Rat) : Prop :=
 (qba p = false ∧ k = 3 ∧ z = 0 ∧ nx = 0 ∧ ny = 0) ∨ (qba p = true ∧ k = p.sol.err ∧ z = p.sol.val ∧ ((k = 0 ∧ nx = p.n ∧ ny = p.m ∧ p.sol = .opt z xs ys) ∨ (k ≠ 0 ∧ nx = 0 ∧ ny = 0)))
def SolPost (w : World) (p : Prob) (K : Nat) (e : Ending) (w' : World) : Prop :=
 ∃ q A n c q' A' n' c' Ax nx cx Ay ny cy k z xs ys, e = .returned (.tuple #[.agg #[.bool q, .slice A n c, .bool q', .slice A' n' c', .slice Ax nx cx, .slice Ay ny cy], .int .i64 k]) ∧ RatB w' (.agg #[.bool q, .slice A n c, .bool q', .slice A' n' c']) z (K + 2) ∧
  q94 w' Ax nx cx xs ∧ q94 w' Ay ny cy ys ∧ (∀ j, j < nx → QB (K + 2) (xs j)) ∧ (∀ i, i < ny → QB (K + 2) (ys i)) ∧ Res p k z nx xs ny ys ∧ Ext w w'
theorem q94.none (w : World) (f : Nat → Rat) : q94 w none 0 0 f := ⟨by omega, by omega, fun h => absurd h (by omega)⟩
theorem qrg (w w' : World) (p : Prob) (K : Nat) (k : Int) (hx : Ext w w') (h : (qba p = false ∧ k = 3) ∨ (qba p = true ∧ k = p.sol.err ∧ 0 = p.sol.val ∧ k ≠ 0)) : SolPost w p K (noSol k) w' :=
 ⟨_, _, _, _, _, _, _, _, _, 0, _, _, 0, _, k, 0, fun _ => 0, fun _ => 0, rfl, ⟨RatV.zero w', qkw (by omega)⟩, q94.none _ _, q94.none _ _, fun j hj => absurd hj (by omega), fun j hj => absurd hj (by omega), h.elim (fun h => .inl ⟨h.1, h.2, rfl, rfl, rfl⟩) (fun h => .inr ⟨h.1, h.2.1, h.2.2.1, .inr ⟨h.2.2.2, rfl, rfl⟩⟩), hx⟩
theorem q6l {p : Prob} (h : p.s1.C p.W ≠ 0) : p.sol = .inf (p.mult p.D1 p.s1.C) := by unfold Prob.sol; rw [if_pos h]
theorem qe0 {p : Prob} (h : p.s1.C p.W = 0) (h2 : entL p.s2.C p.s2.stalled p.art ≠ none) : p.sol = .unb := by unfold Prob.sol; rw [if_neg (fun h' => h' h), if_neg h2]
theorem q36 {p : Prob} (h : p.s1.C p.W = 0) (h2 : entL p.s2.C p.s2.stalled p.art = none) : p.sol = .opt (p.s2.C p.W) (pt p.m p.W p.s2.R p.s2.b) (p.mult p.D2 p.s2.C) := by unfold Prob.sol; rw [if_neg (fun h' => h' h), if_pos h2]
theorem Solve_l (v : Value) (p : Prob) (K : Nat) (w : World) (hv : qga w v p) (hb : qba p = true → Bnd p K) : Calls Tryz.prog 109 #[v] w (SolPost w p K) := by
 refine (Solve_b v p K w hv hb).mono ?_
 rintro e w' ⟨hx, h⟩
 rcases h with ⟨h1, rfl⟩ | ⟨h1, h2, rfl⟩ | ⟨h1, h2, h3, rfl⟩ | ⟨h1, h2, h3, q, A, n, c, q', A', n', c', bx, by', rfl, hz, hX, hY, -⟩
 ·exact qrg w w' p K 3 hx (.inl ⟨h1, rfl⟩)
 ·have e := q6l h2
  exact qrg w w' p K 17 hx (.inr ⟨h1, by rw [e]; rfl, by rw [e]; rfl, by decide⟩)
 ·have e := qe0 h2 h3
  exact qrg w w' p K 18 hx (.inr ⟨h1, by rw [e]; rfl, by rw [e]; rfl, by decide⟩)
 ·have e := q36 h2 h3
  have hp := validB_iff.1 h1
  have hB := hb h1
  have hE := Prob.end2 hp.vrel h2
  obtain ⟨b1, b2, b3⟩ := hB.way2 _ hE
  have hn : p.n ≤ 1000 := hp.2.1
  have hm : p.m ≤ 1000 := hp.2.2.1
  refine ⟨q, A, n, c, q', A', n', c', _, p.n, p.n, _, p.m, p.m, 0, p.s2.C p.W, _, p.mult p.D2 p.s2.C, rfl, ⟨hz, qqj (by omega) (b2 p.W (Nat.le_refl _))⟩, ⟨Nat.le_refl _, by omega, fun _ => ⟨bx, rfl, hX⟩⟩,
   ⟨Nat.le_refl _, by omega, fun _ => ⟨by', rfl, hY.congr (fun i _ => p.D2_mult _ i)⟩⟩, fun j _ => qqj (by omega) (pt_bound (K := K) (by have := hB.one; omega) (fun i hi => b1 i hi p.W (Nat.le_refl _)) (fun k l hk hl e => hE.way.inv.inj hk hl e) j), fun i hi => qog (b2 _ (Nat.le_of_lt (Prob.un_lt hp.vrel hi))) (by rw [Prob.D2_un]; exact qkw (by omega)),
   .inr ⟨h1, by rw [e]; rfl, by rw [e]; rfl, .inl ⟨rfl, rfl, rfl, e⟩⟩, hx⟩
def FarPost (w : World) (p : Prob) (K : Nat) (e : Ending) (w' : World) : Prop :=
 ∃ A n c ok ys, e = .returned (.tuple #[.slice A n c, .bool ok]) ∧ q94 w' A n c ys ∧ (∀ i, i < n → QB (K + 2) (ys i)) ∧ ((ok = true ∧ qba p = true ∧ n = p.m ∧ p.sol = .inf ys) ∨ (ok = false ∧ n = 0 ∧ (qba p = true → p.sol.err ≠ 17))) ∧ Ext w w'
theorem Farkas_l (v : Value) (p : Prob) (K : Nat) (w : World) (hv : qga w v p) (hb : qba p = true → Bnd p K) : Calls Tryz.prog 110 #[v] w (FarPost w p K) := by
 refine (Farkas_b v p K w hv hb).mono ?_
 rintro e w' ⟨hx, h⟩
 rcases h with ⟨h1, h2, b, rfl, hY, -⟩ | ⟨h1, rfl⟩
 ·have hp := validB_iff.1 h1
  have hB := hb h1
  obtain ⟨b1, b2, b3⟩ := hB.way _ (Prob.end1 hp.vrel)
  have hm : p.m ≤ 1000 := hp.2.2.1
  refine ⟨_, p.m, p.m, true, p.mult p.D1 p.s1.C, rfl, ⟨Nat.le_refl _, by omega, fun _ => ⟨b, rfl, hY.congr (fun i hi => Prob.D1_mult hp.vrel _ hi)⟩⟩, fun i hi => qog (b2 _ (Nat.le_of_lt (Prob.un_lt hp.vrel hi))) ?_, .inl ⟨rfl, h1, rfl, q6l h2⟩, hx⟩
  rw [Prob.D1_un hp.vrel hi]
  split
  ·exact q9t (by omega)
  ·exact qkw (by omega)
 ·refine ⟨_, 0, _, false, fun _ => 0, rfl, q94.none _ _, fun i hi => absurd hi (by omega), .inr ⟨rfl, rfl, fun hv' => ?_⟩, hx⟩
  have h2 := h1 hv'
  by_cases h3 : entL p.s2.C p.s2.stalled p.art = none
  ·rw [q36 h2 h3]; show (0 : Int) ≠ 17; decide
  ·rw [qe0 h2 h3]; show (18 : Int) ≠ 17; decide
theorem qiq {n : Int} {d : Nat} (h : in32 n) : QB 2 (qn n d) := by
 have h1 : B 2 n := by
  unfold B; rw [qfm]
  have := h.1; have := h.2; omega
 have h2 : B 2 (1 + ((d % 6 : Nat) : Int)) := by
  unfold B; rw [qfm]; omega
 have := qvh h1 h2 (by omega)
 simpa [qn] using this
theorem in32_zero : in32 0 := ⟨by decide, by decide⟩
theorem qjw {l : List Int} (h : ∀ z ∈ l, in32 z) (j : Nat) : in32 (l.getD j 0) := by
 rw [List.getD_eq_getElem?_getD]
 cases e : l[j]? with
 | none => exact in32_zero
 | some a => exact h a (List.mem_of_getElem? e)
theorem IP.obj_b {p : IP} (h : p.ok) (j : Nat) : QB 2 (p.pl.toP.obj j) := by
 show QB 2 ((p.obj.map (qn · p.den)).getD j 0)
 rw [qzn]; exact qiq (qjw h.1 j)
theorem IP.row_some {p : IP} {i : Nat} (hi : i < p.pl.toP.m) : ∃ r, p.rows[i]? = some r ∧ p.pl.rows.getD i RL.zero = r.rl p.den := by
 have hi' : i < p.rows.length := by simpa [PL.toP, IP.pl] using hi
 exact ⟨_, List.getElem?_eq_getElem hi', IP.row (List.getElem?_eq_getElem hi')⟩
theorem IP.coef_b {p : IP} (h : p.ok) {i : Nat} (hi : i < p.pl.toP.m) (j : Nat) : QB 2 (p.pl.toP.coef i j) := by
 obtain ⟨r, h1, h2⟩ := IP.row_some hi
 show QB 2 ((p.pl.rows.getD i RL.zero).coef.getD j 0)
 rw [h2]
 show QB 2 ((r.coef.map (qn · p.den)).getD j 0)
 rw [qzn]; exact qiq (qjw (h.2.2.2.2 r (List.mem_of_getElem? h1)).1 j)
theorem IP.right_b {p : IP} (h : p.ok) {i : Nat} (hi : i < p.pl.toP.m) : QB 2 (p.pl.toP.right i) := by
 obtain ⟨r, h1, h2⟩ := IP.row_some hi
 show QB 2 (p.pl.rows.getD i RL.zero).right
 rw [h2]
 exact qiq (h.2.2.2.2 r (List.mem_of_getElem? h1)).2.1
theorem Bnd.up {p : Prob} {K K' : Nat} (h : Bnd p K) (hK : K ≤ K') (hK' : K' ≤ 134217728) : Bnd p K' :=
 ⟨hK', Nat.le_trans h.one hK, fun j hj => qqj hK (h.obj j hj), fun i hi j hj => qqj hK (h.coef i hi j hj), fun i hi => qqj hK (h.right i hi),
  fun s hs => ⟨fun i hi j hj => qqj hK ((h.way s hs).1 i hi j hj), fun j hj => qqj hK ((h.way s hs).2.1 j hj), (h.way s hs).2.2⟩, fun i hi j hj => qqj hK (h.red1 i hi j hj),
  fun i hi => ⟨fun k hk j hj => qqj hK ((h.exp i hi).1 k hk j hj), fun j hj => qqj hK ((h.exp i hi).2 j hj)⟩, fun i hi j hj => qqj hK (h.red2 i hi j hj),
  fun s hs => ⟨fun i hi j hj => qqj hK ((h.way2 s hs).1 i hi j hj), fun j hj => qqj hK ((h.way2 s hs).2.1 j hj), (h.way2 s hs).2.2⟩⟩
theorem bK2_mono {m m' k k' h hr hr' : Nat} (hm : m ≤ m') (hk : k ≤ k') (hh : hr ≤ hr') : bK2 m k h hr ≤ bK2 m' k' h hr' := by
 unfold bK2
 have h1 := qv2 h hk
 have := Nat.mul_le_mul hm (show grow k h + hr + 1 ≤ grow k' h + hr' + 1 by omega)
 omega
theorem qrw {m m' k k' h hr hr' hd : Nat} (hm : m ≤ m') (hk : k ≤ k') (hh : hr ≤ hr') : bK3 m k h hr hd ≤ bK3 m' k' h hr' hd := by
 unfold bK3
 have h1 := bK2_mono (h := h) hm hk hh
 have := Nat.mul_le_mul hm (show hd + bK2 m k h hr + 1 ≤ hd + bK2 m' k' h hr' + 1 by omega)
 omega
instance holdsDec (rel : Nat) (l r : Rat) : Decidable (Holds rel l r) := by unfold Holds; infer_instance
def nnB (x : Nat → Rat) : Nat → Bool
 | 0 => true
 | j + 1 => nnB x j && decide (0 ≤ x j)
def hB (p : Prob) (x : Nat → Rat) (i : Nat) : Bool := decide (Holds (p.rel i) (dot p.n (p.coef i) x) (p.right i))
def hsB (p : Prob) (x : Nat → Rat) : Nat → Bool
 | 0 => true
 | i + 1 => hsB p x i && hB p x i
def feasB (p : Prob) (n : Nat) (x : Nat → Rat) : Bool := qba p && (n == p.n) && nnB x n && hsB p x p.m
theorem nnB_iff {x : Nat → Rat} {n : Nat} : nnB x n = true ↔ ∀ j, j < n → 0 ≤ x j := by
 induction n with
 | zero => exact ⟨fun _ i hi => absurd hi (by omega), fun _ => rfl⟩
 | succ n ih =>
   show (nnB x n && decide (0 ≤ x n)) = true ↔ _
   rw [Bool.and_eq_true, ih, decide_eq_true_eq]
   constructor
   ·rintro ⟨a, b⟩ i hi
    by_cases e : i = n
    ·subst e; exact b
    ·exact a i (by omega)
   ·intro h; exact ⟨fun i hi => h i (by omega), h n (by omega)⟩
theorem hsB_iff {p : Prob} {x : Nat → Rat} {m : Nat} : hsB p x m = true ↔ ∀ i, i < m → Holds (p.rel i) (dot p.n (p.coef i) x) (p.right i) := by
 induction m with
 | zero => exact ⟨fun _ i hi => absurd hi (by omega), fun _ => rfl⟩
 | succ m ih =>
   show (hsB p x m && hB p x m) = true ↔ _
   rw [Bool.and_eq_true, ih]
   unfold hB
   rw [decide_eq_true_eq]
   constructor
   ·rintro ⟨a, b⟩ i hi
    by_cases e : i = m
    ·subst e; exact b
    ·exact a i (by omega)
   ·intro h; exact ⟨fun i hi => h i (by omega), h m (by omega)⟩
theorem feasB_iff {p : Prob} {n : Nat} {x : Nat → Rat} : feasB p n x = true ↔ p.Valid ∧ n = p.n ∧ p.Feas x := by
 unfold feasB Prob.Feas
 rw [Bool.and_eq_true, Bool.and_eq_true, Bool.and_eq_true, validB_iff, nnB_iff, hsB_iff, beq_iff_eq]
 constructor
 ·rintro ⟨⟨⟨a, rfl⟩, b⟩, c⟩; exact ⟨a, rfl, b, c⟩
 ·rintro ⟨a, rfl, b, c⟩; exact ⟨⟨⟨a, rfl⟩, b⟩, c⟩
theorem nnB_no {x : Nat → Rat} {j n : Nat} (h : ¬ 0 ≤ x j) (hj : j < n) : nnB x n = false := by
 cases e : nnB x n with
 | false => rfl
 | true => exact absurd (nnB_iff.1 e j hj) h
theorem hsB_no {p : Prob} {x : Nat → Rat} {i m : Nat} (h : hB p x i = false) (hi : i < m) : hsB p x m = false := by
 cases e : hsB p x m with
 | false => rfl
 | true =>
   have := hsB_iff.1 e i hi
   unfold hB at h
   exact absurd this (of_decide_eq_false h)
set_option maxHeartbeats 8000000 in
set_option maxRecDepth 100000 in
theorem Value_b (v : Value) (p : Prob) (Ax : Option Addr) (nx cx : Nat) (x : Nat → Rat) (Ko Kx T : Nat) (w : World) (hv : qga w v p) (hx : q94 w Ax nx cx x)
 (ho : ∀ j, j < p.n → QB Ko (p.obj j)) (hq : ∀ j, j < nx → QB Kx (x j)) (hnx : nx ≤ 1099511627776) (hT : 1 + nx * (Ko + Kx + 1) ≤ T) (hT2 : T ≤ 137438953472) (hT3 : Ko + Kx ≤ 137438953472) :
 Calls Tryz.prog 22 #[v, .slice Ax nx cx] w (q3z w (if qba p = true ∧ nx = p.n then dot p.n p.obj x else 0) T) := by
 have hv0 := hv
 obtain ⟨Ao, co, Ar, cr, rfl, hob, -⟩ := hv0
 obtain ⟨n, hn⟩ : ∃ n, n = p.n := ⟨_, rfl⟩
 obtain ⟨m, hm⟩ : ∃ n, n = p.m := ⟨_, rfl⟩
 rw [← hn] at hob ho
 obtain ⟨Z, hZ⟩ : ∃ Z, Z = if qba p = true ∧ nx = p.n then dot p.n p.obj x else 0 := ⟨_, rfl⟩
 rw [← hZ]
 rw [← hn] at hZ
 have HZ := Lib.hid hZ
 clear hZ
 rw [← hn, ← hm] at hv ⊢
 have HO := Lib.hid ho
 have HX := Lib.hid hq
 have HT := Lib.hid hT
 clear hn hm ho hq hT
 obtain ⟨PB, SB, hE0⟩ := qwt w 41 58 #[.slice Ao n co, .slice Ar m cr] #[.bool false, .slice none 0 0, .bool false, .slice none 0 0]
 go_enter Tryz.func22, Tryz.ntmps22
 go_upto_region 1 with fail
 generalize ((w.alloc (.cells #[.slice Ao n co, .slice Ar m cr] 41)).alloc (.cells #[.bool false, .slice none 0 0, .bool false, .slice none 0 0] 58)) = V at *
 have c0 := PB.c0
 have c1 := PB.c1
 have hvV := hv.ext hE0
 go_wp2_with fail
 refine (q72 _ p _ hvV).mono ?_
 rintro e w1 ⟨rfl, hx1⟩
 have hE1 := hE0.trans hx1
 have PB1 := PB.ext hx1
 have SB1 := SB.ext hx1
 have c0 := PB1.c0
 have c1 := PB1.c1
 clear hvV PB SB
 cases hval : qba p with
 | false =>
   have z0 := SB1.c0
   have z1 := SB1.c1
   have z2 := SB1.c2
   have z3 := SB1.c3
   have f0 := SB1.frozen 0
   have f1 := SB1.frozen 1
   have f2 := SB1.frozen 2
   have f3 := SB1.frozen 3
   go_wp2_with fail
   obtain ⟨pp, pb⟩ := RatV.put (RatV.zero w1) SB1
   have pc0 := pb.c0
   have pc1 := pb.c1
   have pc2 := pb.c2
   have pc3 := pb.c3
   refine bodyPost_ret (v := .agg #[.bool false, .slice none 0 0, .bool false, .slice none 0 0]) (by simp [results, Tryz.results22, go_sem, pc0, pc1, pc2, pc3]) rfl ?_
   rw [HZ.out, hval, if_neg (by simp)]
   exact ⟨_, rfl, ⟨pp, qkw (by have := HT.out; omega)⟩, (((hE1.set (by simp) _).set (by simp) _).set (by simp) _).set (by simp) _⟩
 | true =>
   by_cases hnn : nx = n
   ·subst hnn
    have e1 : ((nx : Int) != (nx : Int)) = false := by simp
    go_wp2_with fail
    refine (qtg _ _ _ _ _ _ _ Ko Kx T _ (hob.ext hE1) (hx.ext hE1) HO.out HX.out hnx HT.out hT2 hT3).mono ?_
    rintro e w2 ⟨v2, rfl, h2, hx2⟩
    obtain ⟨p2, A2, n2, c2, p2', A2', n2', c2', rfl⟩ := h2.1.shape
    have SB2 := SB1.ext hx2
    have hE2 := hE1.trans hx2
    have z0 := SB2.c0
    have z1 := SB2.c1
    have z2 := SB2.c2
    have z3 := SB2.c3
    have f0 := SB2.frozen 0
    have f1 := SB2.frozen 1
    have f2 := SB2.frozen 2
    have f3 := SB2.frozen 3
    go_wp2_with fail
    obtain ⟨pp, pb⟩ := RatV.put h2.1 SB2
    have pc0 := pb.c0
    have pc1 := pb.c1
    have pc2 := pb.c2
    have pc3 := pb.c3
    refine bodyPost_ret (v := .agg #[.bool p2, .slice A2 n2 c2, .bool p2', .slice A2' n2' c2']) (by simp [results, Tryz.results22, go_sem, pc0, pc1, pc2, pc3]) rfl ?_
    rw [HZ.out, if_pos ⟨hval, by first | rfl | trivial⟩]
    exact ⟨_, rfl, ⟨pp, h2.2⟩, (((hE2.set (by simp) _).set (by simp) _).set (by simp) _).set (by simp) _⟩
   ·have e1 : ((nx : Int) != (n : Int)) = true := by simp; omega
    have HNN := Lib.hid hnn
    clear hnn
    have z0 := SB1.c0
    have z1 := SB1.c1
    have z2 := SB1.c2
    have z3 := SB1.c3
    have f0 := SB1.frozen 0
    have f1 := SB1.frozen 1
    have f2 := SB1.frozen 2
    have f3 := SB1.frozen 3
    go_wp2_with fail
    obtain ⟨pp, pb⟩ := RatV.put (RatV.zero w1) SB1
    have pc0 := pb.c0
    have pc1 := pb.c1
    have pc2 := pb.c2
    have pc3 := pb.c3
    refine bodyPost_ret (v := .agg #[.bool false, .slice none 0 0, .bool false, .slice none 0 0]) (by simp [results, Tryz.results22, go_sem, pc0, pc1, pc2, pc3]) rfl ?_
    rw [HZ.out, if_neg (fun h => HNN.out h.2)]
    exact ⟨_, rfl, ⟨pp, qkw (by have := HT.out; omega)⟩, (((hE1.set (by simp) _).set (by simp) _).set (by simp) _).set (by simp) _⟩
set_option maxHeartbeats 16000000 in
theorem q4n (v : Value) (p : Prob) (Ax : Option Addr) (nx cx : Nat) (x : Nat → Rat) (Kc Kr Kx T : Nat) (w : World) (hv : qga w v p) (hx : q94 w Ax nx cx x)
 (hc : ∀ i, i < p.m → ∀ j, j < p.n → QB Kc (p.coef i j)) (hr : ∀ i, i < p.m → QB Kr (p.right i)) (hq : ∀ j, j < nx → QB Kx (x j)) (hnx : nx ≤ 1099511627776) (hT : 1 + nx * (Kc + Kx + 1) ≤ T) (hT2 : T ≤ 137438953472) (hT3 : Kc + Kx ≤ 137438953472) (hT4 : Kr ≤ 137438953472) :
 Calls Tryz.prog 21 #[v, .slice Ax nx cx] w (qjz w (.bool (feasB p nx x))) := by
 have hv0 := hv
 obtain ⟨Ao, co, Ar, cr, rfl, hob, hmc, hcr, hrows⟩ := hv0
 obtain ⟨F, hF⟩ : ∃ F, F = feasB p nx x := ⟨_, rfl⟩
 rw [← hF]
 obtain ⟨n, hn⟩ : ∃ n, n = p.n := ⟨_, rfl⟩
 obtain ⟨m, hm⟩ : ∃ n, n = p.m := ⟨_, rfl⟩
 have HF : Hid (F = (qba p && (nx == n) && nnB x nx && hsB p x m)) := Lib.hid (by rw [hF, hn, hm]; rfl)
 have HB : Hid (∀ i, hB p x i = decide (Holds (p.rel i) (dot n (p.coef i) x) (p.right i))) := Lib.hid (fun i => by rw [hn]; rfl)
 have HVL : Hid (qba p = true → ∀ i, i < m → p.len i = n ∧ 1 ≤ p.rel i ∧ p.rel i ≤ 3) := Lib.hid (fun h => by rw [hn, hm]; exact (validB_iff.1 h).2.2.2)
 rw [← hn] at hc
 rw [← hm] at hc hr hmc hrows
 rw [← hn, ← hm] at hv ⊢
 have HC := Lib.hid hc
 have HR := Lib.hid hr
 have HX := Lib.hid hq
 have HT := Lib.hid hT
 have HROW := Lib.hid hrows
 have hxc := hx.1
 clear hn hm hc hr hq hT hob hF hrows
 have PB := Box.new w 41 #[.slice Ao n co, .slice Ar m cr]
 have hE0 : Ext w (w.alloc (.cells #[.slice Ao n co, .slice Ar m cr] 41)) := (Ext.refl w).alloc _
 go_enter Tryz.func21, Tryz.ntmps21
 go_upto_region 1 with fail
 generalize (w.alloc (.cells #[.slice Ao n co, .slice Ar m cr] 41)) = V at *
 have c0 := PB.c0
 have c1 := PB.c1
 have hvV := hv.ext hE0
 go_wp2_with fail
 refine (q72 _ p _ hvV).mono ?_
 rintro e w1 ⟨rfl, hx1⟩
 have hE1 := hE0.trans hx1
 have PB1 := PB.ext hx1
 have c0 := PB1.c0
 have c1 := PB1.c1
 clear hvV PB
 cases hval : qba p with
 | false =>
   have HE : Hid (F = false) := Lib.hid (by rw [HF.out, hval]; rfl)
   clear hval
   go_wp2_with fail
   go_ret
   exact ⟨by rw [HE.out]; rfl, hE1⟩
 | true =>
   have HVR := Lib.hid (HVL.out hval)
   have HV := Lib.hid hval
   clear hval
   by_cases hnn : nx = n
   case neg =>
    have e1 : ((nx : Int) != (n : Int)) = true := by simp; omega
    have HE : Hid (F = false) := Lib.hid (by rw [HF.out, HV.out, show (nx == n) = false by simpa using hnn]; rfl)
    clear hnn
    go_wp2_with fail
    go_ret
    exact ⟨by rw [HE.out]; rfl, hE1⟩
   case pos =>
    subst hnn
    have e1 : ((nx : Int) != (nx : Int)) = false := by simp
    have HE : Hid (F = (nnB x nx && hsB p x m)) := Lib.hid (by rw [HF.out, HV.out]; simp)
    go_wp2_with fail
    clear e1 c0
    go_loopw [23] (fun i wr => ∃ j : Nat, j ≤ nx ∧ i = .int .i64 j ∧ Hid (nnB x j = true) ∧ Ext w1 wr) (fun i _ => nx - (intOf i).toNat)
    case atStart => exact ⟨0, by omega, rfl, Lib.hid rfl, Ext.refl w1⟩
    case round =>
     obtain ⟨j, hj, rfl, HJ, hxr⟩ := hrel
     by_cases hlt : j < nx
     ·obtain ⟨ba, rfl, hRa⟩ := hx.2.2 (by omega)
      obtain ⟨p1, A1, m1, c1', p1', A1', m1', c1'', e0, e1, e2, e3, hr1⟩ := (hRa.ext (hE1.trans hxr)).at hlt
      obtain ⟨X, hX⟩ : ∃ X, X = x j := ⟨_, rfl⟩
      have HXJ := Lib.hid hX
      have HXQ := Lib.hid (HX.out j hlt)
      rw [← hX] at hr1 HXQ
      clear hX
      go_upto_region 6 with fail
      have Bx := Box.new wr 58 #[.bool p1, .slice A1 m1 c1', .bool p1', .slice A1' m1' c1'']
      have hEx : Ext wr (wr.alloc (.cells #[.bool p1, .slice A1 m1 c1', .bool p1', .slice A1' m1' c1''] 58)) := (Ext.refl wr).alloc _
      generalize (wr.alloc (.cells #[.bool p1, .slice A1 m1 c1', .bool p1', .slice A1' m1' c1''] 58)) = U at *
      have hr1 := hr1.ext hEx
      have hxr := hxr.trans hEx
      have x0 := Bx.c0
      have x1 := Bx.c1
      have x2 := Bx.c2
      have x3 := Bx.c3
      clear e0 e1 e2 e3 hEx
      go_wp2_with fail
      refine (qpl _ X Kx _ ⟨hr1, HXQ.out⟩).mono ?_
      rintro e w2 ⟨rfl, hx2⟩
      have hxr := hxr.trans hx2
      clear x0 x1 x2 x3
      obtain ⟨sg, hsg⟩ : ∃ s, s = X.num.sign := ⟨_, rfl⟩
      rw [← hsg]
      by_cases hneg : X < 0
      ·have e5 : decide (sg < 0) = true := by rw [hsg, Int.sign_eq_neg_one_of_neg (num_neg.1 hneg)]; rfl
       have HE2 : Hid (F = false) := Lib.hid (by rw [HE.out, nnB_no (by rw [← HXJ.out]; exact Rat.not_le.2 hneg) hlt]; rfl)
       clear hneg hsg
       go_wp2_with fail
       go_ret
       exact ⟨by rw [HE2.out]; rfl, hE1.trans hxr⟩
      ·have e5 : decide (sg < 0) = false := by
        rw [hsg]
        rcases q83 X.num with ⟨a, b⟩ | ⟨a, b⟩ | ⟨a, b⟩ <;> rw [b] <;> first | rfl | exact absurd (num_neg.2 a) hneg
       have HJ2 : Hid (nnB x (j + 1) = true) := Lib.hid (by show (nnB x j && decide (0 ≤ x j)) = true; rw [HJ.out, ← HXJ.out, decide_eq_true (Rat.not_lt.1 hneg)]; rfl)
       clear hneg hsg
       go_wp2_with fail
       go_roundw
       case rel => exact ⟨j + 1, by omega, by go_num, HJ2, hxr⟩
       case measure => simp [intOf]; omega
     ·obtain rfl : j = nx := by omega
      have HE3 : Hid (F = hsB p x m) := Lib.hid (by rw [HE.out, HJ.out]; rfl)
      have PB2 := PB1.ext hxr
      have hE2 := hE1.trans hxr
      have c1 := PB2.c1
      go_wp2_with fail
      go_loopw [34] (fun i wr => ∃ k : Nat, k ≤ m ∧ i = .int .i64 k ∧ Hid (hsB p x k = true) ∧ Ext w wr) (fun i _ => m - (intOf i).toNat)
      case atStart => exact ⟨0, by omega, rfl, Lib.hid rfl, hE2⟩
      case round =>
       clear hxr PB2 PB1 c1 hx1 hE0
       obtain ⟨k, hk, rfl, HK, hxr⟩ := hrel
       by_cases hlt2 : k < m
       ·obtain ⟨br, rfl, hrow⟩ := HROW.out (by omega)
        obtain ⟨Ac, cc, bx, A, d, e, by', A', d', e', g0, g1, g2, g3, g4, g5, r1, r2, r3⟩ := (hrow k hlt2).ext hxr
        obtain ⟨hl, hr1, hr3⟩ := HVR.out k hlt2
        rw [hl] at r1 g0
        obtain ⟨rel, hrl⟩ : ∃ r, r = p.rel k := ⟨_, rfl⟩
        have HHB := Lib.hid (HB.out k)
        rw [← hrl] at g1 r2 hr1 hr3 HHB
        obtain ⟨Q, hQ⟩ : ∃ r, r = p.right k := ⟨_, rfl⟩
        have HRQ := Lib.hid (HR.out k hlt2)
        rw [← hQ] at r3 HHB HRQ
        have HCK := Lib.hid (HC.out k hlt2)
        clear hl hrl hQ hrow
        go_upto_region 12 with fail
        obtain ⟨rb, hrb⟩ : ∃ z, z = wr.heap.size := ⟨_, rfl⟩
        have BB := Box.new wr 75 #[.slice Ac j cc, .int .u8 (rel : Int), .bool bx, .slice A d e, .bool by', .slice A' d' e']
        have hEx : Ext wr (wr.alloc (.cells #[.slice Ac j cc, .int .u8 (rel : Int), .bool bx, .slice A d e, .bool by', .slice A' d' e'] 75)) := (Ext.refl wr).alloc _
        generalize (wr.alloc (.cells #[.slice Ac j cc, .int .u8 (rel : Int), .bool bx, .slice A d e, .bool by', .slice A' d' e'] 75)) = U at *
        rw [← hrb] at BB ⊢
        clear hrb g0 g1 g2 g3 g4 g5
        have r1 := r1.ext hEx
        have hxU := hx.ext (hxr.trans hEx)
        have hrB : RatB U _ Q Kr := ⟨r3.ext hEx, HRQ.out⟩
        have hxr := hxr.trans hEx
        have k0 : ∀ w', Later U w' → w'.cell? ⟨rb, 0, none⟩ = some _ := fun w' h => (BB.ext h).c0
        have k2 : ∀ w', Later U w' → w'.cell? ⟨rb, 2, none⟩ = some (.bool bx) := fun w' h => (BB.ext h).cell 2
        have k3 : ∀ w', Later U w' → w'.cell? ⟨rb, 3, none⟩ = some (.slice A d e) := fun w' h => (BB.ext h).cell 3
        have k4 : ∀ w', Later U w' → w'.cell? ⟨rb, 4, none⟩ = some (.bool by') := fun w' h => (BB.ext h).cell 4
        have k5 : ∀ w', Later U w' → w'.cell? ⟨rb, 5, none⟩ = some (.slice A' d' e') := fun w' h => (BB.ext h).cell 5
        have ks := Later.refl U
        obtain ⟨D, hD⟩ : ∃ D, D = dot j (p.coef k) x := ⟨_, rfl⟩
        have HD := Lib.hid hD
        have HT' := HT
        clear hD
        go_region_held3 (fun w' => Later U w') ((repeat (first | assumption | apply Later.drew | apply Later.drewN | apply Later.alloc | (refine Later.step ?_ (by assumption))))) (first
         | (go_at_call 62; (with_reducible refine (qtg _ _ _ _ _ _ _ Kc Kx T _ (q94.ext r1 eAx) (q94.ext hxU eAx) HCK.out HX.out hnx HT'.out hT2 hT3).mono ?_); rintro e wk ⟨vk, rfl, hbk, hxk⟩; (rw [← HD.out] at hbk); (obtain ⟨pk, Ak, nk, ck, pk', Ak', nk', ck', rfl⟩ := hbk.1.shape))
         | (go_at_call 23; (with_reducible refine (q8w _ _ _ _ _ _ _ (RatB.ext hbk eAx) (RatB.ext hrB eAx) (by omega)).mono ?_); rintro e wl ⟨rfl, hxl⟩)
         )
        all_goals (
         have hlL : Ext U wl := by assumption
         clear k0 k2 k3 k4 k5
         have c1 := (BB.ext hlL).c1
         have hx3 := hxr.trans hlL
         rw [← HD.out] at HHB
         obtain ⟨cq, hcq⟩ : ∃ z, z = cmpQ D Q := ⟨_, rfl⟩
         rw [← hcq]
         have key : (hB p x k = true ∧ ((rel = 1 ∧ cq ≤ 0) ∨ (rel = 2 ∧ cq = 0) ∨ (rel = 3 ∧ 0 ≤ cq))) ∨ (hB p x k = false ∧ ((rel = 1 ∧ 0 < cq) ∨ (rel = 2 ∧ cq ≠ 0) ∨ (rel = 3 ∧ cq < 0))) := by
          rw [HHB.out, hcq]
          unfold Holds
          rcases qq3 D Q with ⟨a, b⟩ | ⟨a, b⟩ | ⟨a, b⟩ <;> rw [b] <;> rcases (show rel = 1 ∨ rel = 2 ∨ rel = 3 by omega) with rfl | rfl | rfl <;> simp <;> grind
         clear hcq HHB
         rcases key with ⟨hh, key⟩ | ⟨hh, key⟩
         ·have HK2 : Hid (hsB p x (k + 1) = true) := Lib.hid (by show (hsB p x k && hB p x k) = true; rw [HK.out, hh]; rfl)
          clear hh
          rcases key with ⟨rfl, hc⟩ | ⟨rfl, hc⟩ | ⟨rfl, hc⟩
          ·have e6 : decide (0 < cq) = false := by simpa using hc
           go_wp2_with fail
           go_roundw
           case rel => exact ⟨k + 1, by omega, by go_num, HK2, hx3⟩
           case measure => simp [intOf]; omega
          ·have e6 : (cq != 0) = false := by simpa using hc
           go_wp2_with fail
           go_roundw
           case rel => exact ⟨k + 1, by omega, by go_num, HK2, hx3⟩
           case measure => simp [intOf]; omega
          ·have e6 : decide (cq < 0) = false := by simpa using hc
           go_wp2_with fail
           go_roundw
           case rel => exact ⟨k + 1, by omega, by go_num, HK2, hx3⟩
           case measure => simp [intOf]; omega
         ·have HF2 : Hid (F = false) := Lib.hid (by rw [HE3.out]; exact hsB_no hh hlt2)
          clear hh
          rcases key with ⟨rfl, hc⟩ | ⟨rfl, hc⟩ | ⟨rfl, hc⟩
          ·have e6 : decide (0 < cq) = true := by simpa using hc
           go_wp2_with fail
           go_ret
           exact ⟨by rw [HF2.out]; rfl, hx3⟩
          ·have e6 : (cq != 0) = true := by simpa using hc
           go_wp2_with fail
           go_ret
           exact ⟨by rw [HF2.out]; rfl, hx3⟩
          ·have e6 : decide (cq < 0) = true := by simpa using hc
           go_wp2_with fail
           go_ret
           exact ⟨by rw [HF2.out]; rfl, hx3⟩)
       ·obtain rfl : k = m := by omega
        have HF2 : Hid (F = true) := Lib.hid (by rw [HE3.out, HK.out])
        go_wp2_with fail
        go_ret
        exact ⟨by rw [HF2.out]; rfl, hxr⟩
def sg1 (p : Prob) (y : Nat → Rat) (i : Nat) : Bool := decide ((p.rel i = 1 → 0 ≤ y i) ∧ (p.rel i = 3 → y i ≤ 0))
def sgB (p : Prob) (y : Nat → Rat) : Nat → Bool
 | 0 => true
 | i + 1 => sgB p y i && sg1 p y i
theorem sgB_iff {p : Prob} {y : Nat → Rat} {m : Nat} : sgB p y m = true ↔ ∀ i, i < m → (p.rel i = 1 → 0 ≤ y i) ∧ (p.rel i = 3 → y i ≤ 0) := by
 induction m with
 | zero => exact ⟨fun _ i hi => absurd hi (by omega), fun _ => rfl⟩
 | succ m ih =>
   show (sgB p y m && sg1 p y m) = true ↔ _
   rw [Bool.and_eq_true, ih]
   unfold sg1
   rw [decide_eq_true_eq]
   constructor
   ·rintro ⟨a, b⟩ i hi
    by_cases e : i = m
    ·subst e; exact b
    ·exact a i (by omega)
   ·intro h; exact ⟨fun i hi => h i (by omega), h m (by omega)⟩
theorem sgB_no {p : Prob} {y : Nat → Rat} {i m : Nat} (h : sg1 p y i = false) (hi : i < m) : sgB p y m = false := by
 cases e : sgB p y m with
 | false => rfl
 | true =>
   have := sgB_iff.1 e i hi
   unfold sg1 at h
   exact absurd this (of_decide_eq_false h)
def q03 (p : Prob) (ny : Nat) (y : Nat → Rat) : Bool := (ny == p.m) && sgB p y p.m
theorem combB_iff {p : Prob} {ny : Nat} {y : Nat → Rat} : q03 p ny y = true ↔ ny = p.m ∧ p.Sgn y := by
 unfold q03 Prob.Sgn
 rw [Bool.and_eq_true, sgB_iff, beq_iff_eq]
theorem ext4 {w0 w : World} {b : Nat} (hb : w0.heap.size ≤ b) (h : Ext w0 w) (u0 u1 u2 u3 : Value) : Ext w0 ((((w.setCell ⟨b, 0, none⟩ u0).setCell ⟨b, 1, none⟩ u1).setCell ⟨b, 2, none⟩ u2).setCell ⟨b, 3, none⟩ u3) :=
 (((h.set (p := ⟨b, 0, none⟩) hb u0).set (p := ⟨b, 1, none⟩) hb u1).set (p := ⟨b, 2, none⟩) hb u2).set (p := ⟨b, 3, none⟩) hb u3
theorem RBox.fr {P : Nat → Prop} {w w' : World} {b : Nat} {q : Rat} {k : Nat} (h : RBox w b q k) (f : Fr P w w') (hb : ¬ P b) : RBox w' b q k := by
 obtain ⟨x1, y1, A, A', d, e, d', e', h1, h2⟩ := h
 exact ⟨x1, y1, A, A', d, e, d', e', f.box h1 hb, f.ratB h2⟩
theorem fr4 {w : World} {b : Nat} {E : TypeId} {x y : Bool} {A A' : Option Addr} {d e d' e' : Nat} (B : Box w b E #[.bool x, .slice A d e, .bool y, .slice A' d' e']) (u0 u1 u2 u3 : Value) :
 Fr (fun k => k = b) w ((((w.setCell ⟨b, 0, none⟩ u0).setCell ⟨b, 1, none⟩ u1).setCell ⟨b, 2, none⟩ u2).setCell ⟨b, 3, none⟩ u3) := by
 have h0 := B.set 0 u0
 have h1 := h0.set 1 u1
 have h2 := h1.set 2 u2
 refine ((((Fr.refl (fun k => k = b) w).set (p := ⟨b, 0, none⟩) rfl (fun z => ?_) u0).set (p := ⟨b, 1, none⟩) rfl (fun z => ?_) u1).set (p := ⟨b, 2, none⟩) rfl (fun z => ?_) u2).set (p := ⟨b, 3, none⟩) rfl (fun z => ?_) u3
 ·rw [B.cell 0]; intro e; cases e
 ·rw [h0.cell 1]; intro e; cases e
 ·rw [h1.cell 2]; intro e; cases e
 ·rw [h2.cell 3]; intro e; cases e
end Go.Proofs.YtljncdcjkdgkeaaGreatDoor.Lp
namespace Go.Proofs.YtljncdcjkdgkeaaGreatDoor.Big
open Go.RowKit
def qao (w : World) (r : Nat) (es : Array MapEntry) (clock : Nat) : World := { w with heap := w.heap.setIfInBounds r (.map es clock) }
section
variable {P : Program} {w : World} {mt kt et pt : TypeId} {r clock c0 : Nat} {es0 : Array MapEntry}
theorem qs7 (hb : w.heap[r]? = some (.map es0 c0)) (es : Array MapEntry) (clock : Nat) : (qao w r es clock).heap[r]? = some (.map es clock) := (MapKept.heap_set hb).1
theorem qx2 (hb : w.heap[r]? = some (.map es0 c0)) (es : Array MapEntry) (clock : Nat) {k : Nat} (hk : k ≠ r) : (qao w r es clock).heap[k]? = w.heap[k]? := (MapKept.heap_set hb).2 k hk
theorem qdf (hk : P.underlying kt = some (.pointer pt)) (e : Bool) (n : Nat) (a : Option Addr) : (Instr.checkKey e (n + 1) kt (.pointer a)).run P w = .ok () w := by
 unfold Instr.checkKey
 simp [run_underlying hk, Result.andThen]
theorem qs4 (hk : P.underlying kt = some (.pointer pt)) (k : Value) : (Instr.findKey kt k []).run P w = .ok none w := by
 simp [Instr.findKey, run_underlying hk, Result.andThen, Instr.findNow]
theorem qb6 {j : TypeInfo} (hk : P.underlying kt = some (.pointer pt)) (hj : P.info? pt = some j) (a : Addr) : (Op.equal kt (.pointer (some a)) (.pointer (some a))).run P w = .ok true w := by
 have h : ∀ d : Nat, (Op.equalIn (d + 1) kt (.pointer (some a)) (.pointer (some a))).run P w = .ok true w := fun d => by
  simp [Op.equalIn, run_underlying hk, sizeOf, typeInfo, hj, run_sameAddr_same]
 simp [Op.equal, Op.maxDepth, h 9999]
theorem qc6 {j : TypeInfo} (hk : P.underlying kt = some (.pointer pt)) (hj : P.info? pt = some j) (a : Addr) (v : Value) (c : Nat) : (Instr.findKey kt (.pointer (some a)) [{ key := .pointer (some a), val := v, born := c }]).run P w = .ok (some (0, v)) w := by
 simp [Instr.findKey, run_underlying hk, Result.andThen, Instr.findNow, Instr.sameNow, Instr.findAsking, qb6 hk hj a]
theorem qig {z : Value} (hm : P.underlying mt = some (.map kt et)) (hk : P.underlying kt = some (.pointer pt)) (hb : w.heap[r]? = some (.map #[] clock)) (hz : (zeroValue et).run P w = .ok z w) (a : Option Addr) :
 (Instr.lookup mt (.map (some r)) (.pointer a) true).run P w = .ok (.tuple #[z, .bool false]) w := by
 simp [Instr.lookup, run_underlying hm, Result.andThen, MapKept.run_getObj_map hb, qdf (n := 9999) hk, qs4 hk, hz]
theorem q6k {j : TypeInfo} (hm : P.underlying mt = some (.map kt et)) (hk : P.underlying kt = some (.pointer pt)) (hj : P.info? pt = some j) (a : Addr) (v : Value) (c : Nat) (hb : w.heap[r]? = some (.map #[{ key := .pointer (some a), val := v, born := c }] clock)) :
 (Instr.lookup mt (.map (some r)) (.pointer (some a)) false).run P w = .ok v w := by
 simp [Instr.lookup, run_underlying hm, Result.andThen, MapKept.run_getObj_map hb, qdf (n := 9999) hk, qc6 hk hj]
theorem ql9 (hm : P.underlying mt = some (.map kt et)) (hk : P.underlying kt = some (.pointer pt)) (hb : w.heap[r]? = some (.map #[] clock)) (a : Option Addr) (v : Value) :
 (Instr.mapUpdate mt (.map (some r)) (.pointer a) v).run P w = .ok () (qao w r #[{ key := .pointer a, val := v, born := clock }] (clock + 1)) := by
 simp [Instr.mapUpdate, run_underlying hm, Result.andThen, MapKept.run_getObj_map hb, qdf (n := 9999) hk, qs4 hk, MapKept.run_setObj_map _ hb, qao]
theorem qj7 {j : TypeInfo} (hm : P.underlying mt = some (.map kt et)) (hk : P.underlying kt = some (.pointer pt)) (hj : P.info? pt = some j) (a : Addr) (v0 v : Value) (c : Nat) (hb : w.heap[r]? = some (.map #[{ key := .pointer (some a), val := v0, born := c }] clock)) :
 (Instr.mapUpdate mt (.map (some r)) (.pointer (some a)) v).run P w = .ok () (qao w r #[{ key := .pointer (some a), val := v, born := c }] clock) := by
 have hs : (Instr.keyThatStays (.pointer (some a)) (.pointer (some a))).run P w = .ok (.pointer (some a)) w := by
  simp [Instr.keyThatStays, Instr.sameBits]
 simp [Instr.mapUpdate, run_underlying hm, Result.andThen, MapKept.run_getObj_map hb, qdf (n := 9999) hk, qc6 hk hj, hs, MapKept.run_setObj_map _ hb, qao]
theorem qfs {d : TypeDesc} (hk : P.underlying kt = some d) (k : Value) : (Instr.findKey kt k []).run P w = .ok none w := by
 simp [Instr.findKey, run_underlying hk, Result.andThen, Instr.findNow]
theorem qr6 {d : TypeDesc} {z k : Value} (hm : P.underlying mt = some (.map kt et)) (hk : P.underlying kt = some d) (hc : (Instr.checkKey true 10000 kt k).run P w = .ok () w) (hb : w.heap[r]? = some (.map #[] clock)) (hz : (zeroValue et).run P w = .ok z w) :
 (Instr.lookup mt (.map (some r)) k false).run P w = .ok z w := by
 simp [Instr.lookup, run_underlying hm, Result.andThen, MapKept.run_getObj_map hb, hc, qfs hk, hz]
theorem qbb {d : TypeDesc} {k : Value} (hm : P.underlying mt = some (.map kt et)) (hk : P.underlying kt = some d) (hc : (Instr.checkKey false 10000 kt k).run P w = .ok () w) (hb : w.heap[r]? = some (.map #[] clock)) (v : Value) :
 (Instr.mapUpdate mt (.map (some r)) k v).run P w = .ok () (qao w r #[{ key := k, val := v, born := clock }] (clock + 1)) := by
 simp [Instr.mapUpdate, run_underlying hm, Result.andThen, MapKept.run_getObj_map hb, hc, qfs hk, MapKept.run_setObj_map _ hb, qao]
end
end Go.Proofs.YtljncdcjkdgkeaaGreatDoor.Big
namespace Go.Proofs.YtljncdcjkdgkeaaGreatDoor.Lp
open Go.RowKit
def q89 (vr fl : Int) (lo hi : Option Addr) (em : Bool) (A : Option Addr) (n c : Nat) : Array Value := #[.int .i64 vr, .int .i64 fl, .pointer lo, .pointer hi, .bool em, .slice A n c]
open Go.RowKit Go.Proofs.YtljncdcjkdgkeaaGreatDoor.Big Go.Proofs.YtljncdcjkdgkeaaGreatDoor.Rt
theorem Ext.map {a w : World} {r : Nat} (h : Ext a w) (hr : a.heap.size ≤ r) (es : Array MapEntry) (c : Nat) : Ext a (qao w r es c) :=
 ⟨h.os, h.tape, h.output, by have := h.size; simpa [qao] using this, fun k hk => by
  have hne : k ≠ r := by omega
  have := Below.block h k hk
  rw [← this]
  simp [qao, Ne.symm hne]⟩
theorem zero_int (w : World) : (zeroValue 3).run Tryz.prog w = .ok (.int .i64 0) w := by kernel_rfl
theorem qfo (w : World) : (zeroValue 4).run Tryz.prog w = .ok (.bool false) w := by kernel_rfl
theorem infoNode : (Tryz.prog.info? 79).map (·.size) = some 6 := by kernel_rfl
theorem Box.mapW {w : World} {b r : Nat} {E : TypeId} {cs : Array Value} {es0 : Array MapEntry} {c0 : Nat} (h : Box w b E cs) (hr : w.heap[r]? = some (.map es0 c0)) (es : Array MapEntry) (c : Nat) : Box (qao w r es c) b E cs := by
 have hne : b ≠ r := fun e => by
  subst e
  unfold Box at h
  rw [hr] at h
  injection h with h
  cases h
 exact (qx2 hr es c hne).trans h
set_option maxHeartbeats 4000000 in
set_option maxRecDepth 100000 in
theorem q5z (tb hb fb mb : Nat) (fl lev : Int) (em : Bool) (A : Option Addr) (n c ck : Nat) (v : Value) (w : World) (hT : Box w tb 79 (q89 (-1) fl none none em A n c)) (hH : Box w hb 131 #[.map (some mb)]) (hM : w.heap[mb]? = some (.map #[] ck)) (hl : lev ≤ 200) :
 Calls Tryz.prog 67 #[.pointer (some ⟨tb, 0, none⟩), .int .i64 lev, .pointer (some ⟨hb, 0, none⟩), v] w (fun e w' => e = .returned (.int .i64 (if fl = 0 then 0 else -1)) ∧ ∀ a, Ext a w → a.heap.size ≤ mb → Ext a w') := by
 obtain ⟨j, hj, -⟩ := Option.map_eq_some_iff.1 infoNode
 have e1 : decide ((200 : Int) < lev) = false := by simp; omega
 have h1 := qig (P := Tryz.prog) (mt := 131) Tryz.underlying131 Tryz.underlying25 hM (zero_int w) (some ⟨tb, 0, none⟩)
 have h2 := ql9 (P := Tryz.prog) (mt := 131) Tryz.underlying131 Tryz.underlying25 hM (some ⟨tb, 0, none⟩) (.int .i64 (-1))
 obtain ⟨w1, hw1⟩ : ∃ x, x = qao w mb #[{ key := .pointer (some ⟨tb, 0, none⟩), val := .int .i64 (-1), born := ck }] (ck + 1) := ⟨_, rfl⟩
 have hM1 : w1.heap[mb]? = some (.map #[{ key := .pointer (some ⟨tb, 0, none⟩), val := .int .i64 (-1), born := ck }] (ck + 1)) := by rw [hw1]; exact qs7 hM _ _
 have hT1 : Box w1 tb 79 (q89 (-1) fl none none em A n c) := by rw [hw1]; exact Box.mapW hT hM _ _
 have hH1 : Box w1 hb 131 #[.map (some mb)] := by rw [hw1]; exact Box.mapW hH hM _ _
 have hx1 : ∀ a, Ext a w → a.heap.size ≤ mb → Ext a w1 := fun a ha hr => by rw [hw1]; exact Ext.map ha hr _ _
 rw [← hw1] at h2
 have h3 := qj7 (P := Tryz.prog) (mt := 131) Tryz.underlying131 Tryz.underlying25 hj ⟨tb, 0, none⟩ (.int .i64 (-1)) (.int .i64 0) ck hM1
 obtain ⟨w2, hw2⟩ : ∃ x, x = qao w1 mb #[{ key := .pointer (some ⟨tb, 0, none⟩), val := .int .i64 0, born := ck }] (ck + 1) := ⟨_, rfl⟩
 have hM2 : w2.heap[mb]? = some (.map #[{ key := .pointer (some ⟨tb, 0, none⟩), val := .int .i64 0, born := ck }] (ck + 1)) := by rw [hw2]; exact qs7 hM1 _ _
 have hH2 : Box w2 hb 131 #[.map (some mb)] := by rw [hw2]; exact Box.mapW hH1 hM1 _ _
 have hx2 : ∀ a, Ext a w1 → a.heap.size ≤ mb → Ext a w2 := fun a ha hr => by rw [hw2]; exact Ext.map ha hr _ _
 rw [← hw2] at h3
 have h4 := q6k (P := Tryz.prog) (mt := 131) Tryz.underlying131 Tryz.underlying25 hj ⟨tb, 0, none⟩ (.int .i64 0) ck hM2
 have h5 := q6k (P := Tryz.prog) (mt := 131) Tryz.underlying131 Tryz.underlying25 hj ⟨tb, 0, none⟩ (.int .i64 (-1)) ck hM1
 have c0 := hH.c0
 have c1 := hH1.c0
 have c2 := hH2.c0
 have t0 : w1.cell? ⟨tb, 0, none⟩ = some (.int .i64 (-1)) := hT1.cell 0
 have t1 : w1.cell? ⟨tb, 1, none⟩ = some (.int .i64 fl) := hT1.cell 1
 have t2 : w1.cell? ⟨tb, 2, none⟩ = some (.pointer none) := hT1.cell 2
 have t3 : w1.cell? ⟨tb, 3, none⟩ = some (.pointer none) := hT1.cell 3
 clear hw1 hw2
 by_cases hf : fl = 0
 ·subst hf
  go_enter Tryz.func67, Tryz.ntmps67
  go_wp2_with fail
  go_ret
  exact ⟨rfl, fun a ha hr => hx2 a (hx1 a ha hr) hr⟩
 ·have e2 : (fl == 0) = false := by simpa using hf
  go_enter Tryz.func67, Tryz.ntmps67
  go_wp2_with fail
  go_ret
  exact ⟨rfl, fun a ha hr => hx1 a ha hr⟩
theorem qnt (w : World) (e : Bool) (a : Option Addr) (z : Int) : (Instr.checkKey e 10000 143 (.agg #[.pointer a, .int .i64 z])).run Tryz.prog w = .ok () w := by kernel_rfl
set_option maxHeartbeats 4000000 in
set_option maxRecDepth 100000 in
theorem qzb (tb sb pb mb : Nat) (fl lev : Int) (em : Bool) (A : Option Addr) (n c ck : Nat) (Ao Ar : Option Addr) (no co m cr : Nat) (v : Value) (w : World) (hT : Box w tb 79 (q89 (-1) fl none none em A n c)) (hS : Box w sb 140 #[.map (some mb)]) (hM : w.heap[mb]? = some (.map #[] ck)) (hP : Box w pb 41 #[.slice Ao no co, .slice Ar m cr]) (h0 : 0 ≤ lev) (h1 : lev ≤ 1000) (hm : m ≤ 9000000000000000000) :
 Calls Tryz.prog 76 #[.pointer (some ⟨tb, 0, none⟩), .int .i64 lev, .pointer (some ⟨sb, 0, none⟩), .pointer (some ⟨pb, 0, none⟩), v] w (fun e w' => e = .returned (.bool ((n : Int) == (m : Int) + lev)) ∧ ∀ a, Ext a w → a.heap.size ≤ mb → Ext a w') := by
 obtain ⟨W, hW⟩ : ∃ x, x = w.alloc (.cells #[.pointer (some ⟨tb, 0, none⟩), .int .i64 lev] 143) := ⟨_, rfl⟩
 have hE : Ext w W := by rw [hW]; exact (Ext.refl w).alloc _
 have hB : Box W w.heap.size 143 #[.pointer (some ⟨tb, 0, none⟩), .int .i64 lev] := by rw [hW]; exact Box.new _ _ _
 have hmb : mb < w.heap.size := by
  rcases Nat.lt_or_ge mb w.heap.size with h' | h'
  ·exact h'
  ·rw [Array.getElem?_eq_none h'] at hM; cases hM
 have hM0 : W.heap[mb]? = some (.map #[] ck) := (Below.block hE mb hmb).trans hM
 have e1 := qr6 (P := Tryz.prog) (mt := 140) Tryz.underlying140 Tryz.underlying143 (qnt W true (some ⟨tb, 0, none⟩) lev) hM0 (qfo W)
 have e2 := qbb (P := Tryz.prog) (mt := 140) Tryz.underlying140 Tryz.underlying143 (qnt W false (some ⟨tb, 0, none⟩) lev) hM0 (.bool true)
 obtain ⟨w1, hw1⟩ : ∃ x, x = qao W mb #[{ key := .agg #[.pointer (some ⟨tb, 0, none⟩), .int .i64 lev], val := .bool true, born := ck }] (ck + 1) := ⟨_, rfl⟩
 have hT1 : Box w1 tb 79 (q89 (-1) fl none none em A n c) := by rw [hw1]; exact Box.mapW (hT.ext hE) hM0 _ _
 have hP1 : Box w1 pb 41 #[.slice Ao no co, .slice Ar m cr] := by rw [hw1]; exact Box.mapW (hP.ext hE) hM0 _ _
 have hx1 : ∀ a, Ext a w → a.heap.size ≤ mb → Ext a w1 := fun a ha hr => by rw [hw1]; exact Ext.map (ha.trans hE) hr _ _
 rw [← hw1] at e2
 have c0 := (hS.ext hE).c0
 have b0 := hB.c0
 have b1 := hB.c1
 have t0 : w1.cell? ⟨tb, 0, none⟩ = some (.int .i64 (-1)) := hT1.cell 0
 have t5 : w1.cell? ⟨tb, 5, none⟩ = some (.slice A n c) := hT1.cell 5
 have p1 := hP1.c1
 have r1 : IntKind.i64.wrap ((m : Int) + lev) = (m : Int) + lev := IntWalk.i64_in _ (by omega)
 clear hw1
 go_enter Tryz.func76, Tryz.ntmps76
 go_upto_region 2 with fail
 simp only [← hW]
 clear hW
 go_upto_region 6 with fail
 go_quiet (fail)
 go_wp2_with fail
 go_ret
 exact ⟨rfl, fun a ha hr => (by repeat (first | exact hx1 a ha hr | apply Ext.drewN | apply Ext.drew))⟩
end Go.Proofs.YtljncdcjkdgkeaaGreatDoor.Lp
