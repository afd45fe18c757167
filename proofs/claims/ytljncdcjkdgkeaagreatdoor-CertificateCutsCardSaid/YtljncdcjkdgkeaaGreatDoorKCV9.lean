/- Walk: bounded of the certificate. Walks: Leaf and Empty of the certificate. bounded in one form. Walk: Check's closure at a leaf that is not empty. -/
import Derived.Test.YtljncdcjkdgkeaaGreatDoorKCV7
import Derived.Deep.DeepCutAuto
set_option linter.unusedVariables false
set_option linter.unusedSimpArgs false
namespace Go.Proofs.YtljncdcjkdgkeaaGreatDoor.Lp
open Go.RowKit Go.Proofs.YtljncdcjkdgkeaaGreatDoor.Big Go.Proofs.YtljncdcjkdgkeaaGreatDoor.Rt

def geB (f g : Nat → Rat) : Nat → Bool
  | 0 => true
  | j + 1 => geB f g j && decide (g j ≤ f j)
theorem geB_iff {f g : Nat → Rat} {n : Nat} : geB f g n = true ↔ ∀ j, j < n → g j ≤ f j := by
  induction n with
  | zero => exact ⟨fun _ i hi => absurd hi (by omega), fun _ => rfl⟩
  | succ n ih =>
    show (geB f g n && decide (g n ≤ f n)) = true ↔ _
    rw [Bool.and_eq_true, ih, decide_eq_true_eq]
    constructor
    · rintro ⟨a, b⟩ i hi
      by_cases e : i = n
      · subst e; exact b
      · exact a i (by omega)
    · intro h; exact ⟨fun i hi => h i (by omega), h n (by omega)⟩
theorem geB_congr {f g h : Nat → Rat} {n : Nat} (e : ∀ j, j < n → f j = g j) : geB f h n = geB g h n := by
  induction n with
  | zero => rfl
  | succ k ih => show (geB f h k && _) = (geB g h k && _); rw [ih (fun j hj => e j (by omega)), e k (by omega)]
def bndB (p : Prob) (ny : Nat) (y : Nat → Rat) : Bool := combB p ny y && geB (p.left y) p.obj p.n
def BndC (w : World) (p : Prob) (ny : Nat) (y : Nat → Rat) (T : Nat) (e : Ending) (w' : World) : Prop :=
  ((bndB p ny y = false ∧ e = .returned (.tuple #[.agg #[.bool false, .slice none 0 0, .bool false, .slice none 0 0], .bool false])) ∨
    (bndB p ny y = true ∧ ∃ q A n c q' A' n' c', e = .returned (.tuple #[.agg #[.bool q, .slice A n c, .bool q', .slice A' n' c'], .bool true]) ∧ RatB w' (.agg #[.bool q, .slice A n c, .bool q', .slice A' n' c']) (p.rhs y) T)) ∧ Ext w w'
set_option maxHeartbeats 8000000 in
set_option maxRecDepth 100000 in
theorem bounded_b (v : Value) (p : Prob) (Ay : Option Addr) (ny cy : Nat) (y : Nat → Rat) (Kc Kr Ko Ky T : Nat) (w : World) (hv : ProbV w v p) (hval : validB p = true) (hy : RatsV w Ay ny cy y)
    (hc : ∀ i, i < p.m → ∀ j, j < p.n → QB Kc (p.coef i j)) (hr : ∀ i, i < p.m → QB Kr (p.right i)) (ho : ∀ j, j < p.n → QB Ko (p.obj j)) (hq : ∀ j, j < ny → QB Ky (y j)) (hT : 1 + p.m * (Kc + Kr + Ky + 1) ≤ T) (hT2 : T ≤ 137438953472) (hT3 : Kc + Kr + Ky ≤ 137438953472) (hT4 : Ko ≤ 137438953472) :
    Calls Tryz.prog 51 #[v, .slice Ay ny cy] w (BndC w p ny y T) := by
  have hv0 := hv
  obtain ⟨Ao, co, Ar, cr, rfl, hob, -⟩ := hv0
  have hp := validB_iff.1 hval
  have hn1 : 1 ≤ p.n := hp.1
  have hnb : p.n ≤ 1000 := hp.2.1
  have hoc := hob.1
  obtain ⟨F, hF⟩ : ∃ F, F = bndB p ny y := ⟨_, rfl⟩
  have HP : Hid (∀ e w', BndC w p ny y T e w' ↔ ((F = false ∧ e = .returned (.tuple #[.agg #[.bool false, .slice none 0 0, .bool false, .slice none 0 0], .bool false])) ∨
    (F = true ∧ ∃ q A n c q' A' n' c', e = .returned (.tuple #[.agg #[.bool q, .slice A n c, .bool q', .slice A' n' c'], .bool true]) ∧ RatB w' (.agg #[.bool q, .slice A n c, .bool q', .slice A' n' c']) (p.rhs y) T)) ∧ Ext w w') := Lib.hid (fun e w' => by rw [hF]; exact Iff.rfl)
  have HF : Hid (F = (combB p ny y && geB (p.left y) p.obj p.n)) := Lib.hid (by rw [hF]; rfl)
  have HC := Lib.hid hc
  have HR := Lib.hid hr
  have HO := Lib.hid ho
  have HY := Lib.hid hq
  have HT := Lib.hid hT
  have HV := Lib.hid hval
  clear hc hr ho hq hT hval hp hF
  obtain ⟨PB, ZB, hE0⟩ := boxesT2 w 41 58 #[.slice Ao p.n co, .slice Ar p.m cr] #[.bool false, .slice none 0 0, .bool false, .slice none 0 0]
  go_enter Tryz.func51, Tryz.ntmps51
  go_upto_region 1 with fail
  generalize ((w.alloc (.cells #[.slice Ao p.n co, .slice Ar p.m cr] 41)).alloc (.cells #[.bool false, .slice none 0 0, .bool false, .slice none 0 0] 58)) = V at *
  obtain ⟨zb, hzb⟩ : ∃ x, x = w.heap.size + 1 := ⟨_, rfl⟩
  obtain ⟨pb, hpb⟩ : ∃ x, x = w.heap.size := ⟨_, rfl⟩
  rw [← hzb] at ZB ⊢
  rw [← hpb] at PB ⊢
  have hw4 : w.heap.size ≤ zb := by omega
  clear hzb hpb
  have c0 := PB.c0
  have c1 := PB.c1
  have hvV := hv.ext hE0
  go_wp2_with fail
  refine (combineC_b _ p Ay ny cy y Kc Kr Ky T _ hvV HV.out (hy.ext hE0) HC.out HR.out HY.out HT.out hT2 hT3).mono ?_
  rintro e w1 ⟨hcase, hx1⟩
  have hE1 := hE0.trans hx1
  have PB := PB.ext hx1
  have ZB := ZB.ext hx1
  have hob1 := hob.ext hE1
  clear hx1 hvV c0 c1 hE0 hob
  rcases hcase with ⟨hcb, rfl⟩ | ⟨hcb, bl, q, A, n1, c, q', A', n1', c', f, z, rfl, hL, hZ, hB, hlf, hrh⟩
  · have HE : Hid (F = false) := Lib.hid (by rw [HF.out, hcb]; rfl)
    clear hcb PB
    go_upto_region 2 with fail
    have hx6 : Ext w1 (w1.alloc (.cells #[.bool false, .slice none 0 0, .bool false, .slice none 0 0] 58)) := (Ext.refl w1).alloc _
    generalize (w1.alloc (.cells #[.bool false, .slice none 0 0, .bool false, .slice none 0 0] 58)) = U at *
    have ZB := ZB.ext hx6
    have hE2 := hE1.trans hx6
    have z0 := ZB.c0
    have z1 := ZB.c1
    have z2 := ZB.c2
    have z3 := ZB.c3
    have f0 := ZB.frozen 0
    have f1 := ZB.frozen 1
    have f2 := ZB.frozen 2
    have f3 := ZB.frozen 3
    have hb4 := ZB.set4 (.bool false) (.slice none 0 0) (.bool false) (.slice none 0 0)
    have pc0 := hb4.c0
    have pc1 := hb4.c1
    have pc2 := hb4.c2
    have pc3 := hb4.c3
    go_wp2_with fail
    refine bodyPost_ret (v := .tuple #[.agg #[.bool false, .slice none 0 0, .bool false, .slice none 0 0], .bool false]) (by simp [results, Tryz.results51, go_sem, pc0, pc1, pc2, pc3]) rfl ?_
    rw [HP.out]
    exact ⟨.inl ⟨HE.out, rfl⟩, ext4 hw4 hE2 (.bool false) (.slice none 0 0) (.bool false) (.slice none 0 0)⟩
  · subst hrh
    have HFE : Hid (F = geB f p.obj p.n) := Lib.hid (by rw [HF.out, hcb, geB_congr hlf]; rfl)
    have HB := Lib.hid hB
    clear hcb hlf hB
    go_upto_region 2 with fail
    have B8 := Box.new w1 58 #[.bool q, .slice A n1 c, .bool q', .slice A' n1' c']
    have hx6 : Ext w1 (w1.alloc (.cells #[.bool q, .slice A n1 c, .bool q', .slice A' n1' c'] 58)) := (Ext.refl w1).alloc _
    generalize (w1.alloc (.cells #[.bool q, .slice A n1 c, .bool q', .slice A' n1' c'] 58)) = U at *
    obtain ⟨b8, hb8⟩ : ∃ x, x = w1.heap.size := ⟨_, rfl⟩
    rw [← hb8] at B8 ⊢
    clear hb8
    have hL := hL.ext hx6
    have hZ := hZ.ext hx6
    have PB := PB.ext hx6
    have ZB := ZB.ext hx6
    have hob := hob1.ext hx6
    have hE2 := hE1.trans hx6
    clear hx6 hE1 hob1
    have c0 := PB.c0
    have en : ((p.n : Int) == 0) = false := by simp; omega
    go_wp2_with fail
    clear c0 en
    go_loopw [29] (fun i wr => ∃ j : Nat, j ≤ p.n ∧ i = .int .i64 j ∧ Hid (geB f p.obj j = true) ∧ Ext U wr) (fun i _ => p.n - (intOf i).toNat)
    case atStart => exact ⟨0, by omega, rfl, Lib.hid rfl, Ext.refl U⟩
    case round =>
      obtain ⟨j, hj, rfl, HJ, hx⟩ := hrel
      by_cases hlt : j < p.n
      · obtain ⟨p3, A3, m3, c3, p3', A3', m3', c3', a0, a1, a2, a3, hr3⟩ := (hL.ext hx).at hlt
        obtain ⟨bo, rfl, hRo⟩ := hob.2.2 (by omega)
        obtain ⟨p4, A4, m4, c4, p4', A4', m4', c4', g0, g1, g2, g3, hr4⟩ := (hRo.ext hx).at hlt
        go_upto_region 7 with fail
        have Bx := Box.new wr 58 #[.bool p3, .slice A3 m3 c3, .bool p3', .slice A3' m3' c3']
        have hEx : Ext wr (wr.alloc (.cells #[.bool p3, .slice A3 m3 c3, .bool p3', .slice A3' m3' c3'] 58)) := (Ext.refl wr).alloc _
        generalize (wr.alloc (.cells #[.bool p3, .slice A3 m3 c3, .bool p3', .slice A3' m3' c3'] 58)) = X at *
        have hx := hx.trans hEx
        have hF : RatB X _ (f j) T := ⟨hr3.ext hEx, HB.out j hlt⟩
        have hG : RatB X _ (p.obj j) Ko := ⟨hr4.ext hEx, HO.out j hlt⟩
        have PBx := PB.ext hx
        have k30 : ∀ w', Later X w' → w'.cell? ⟨pb, 0, none⟩ = some _ := fun w' h => (PBx.ext h).c0
        have ko0 : ∀ w', Later X w' → w'.cell? ⟨bo, j * 4, none⟩ = some _ := fun w' h => Later.cell h (hEx.cell g0)
        have ko1 : ∀ w', Later X w' → w'.cell? ⟨bo, j * 4 + 1, none⟩ = some _ := fun w' h => Later.cell h (hEx.cell g1)
        have ko2 : ∀ w', Later X w' → w'.cell? ⟨bo, j * 4 + 2, none⟩ = some _ := fun w' h => Later.cell h (hEx.cell g2)
        have ko3 : ∀ w', Later X w' → w'.cell? ⟨bo, j * 4 + 3, none⟩ = some _ := fun w' h => Later.cell h (hEx.cell g3)
        have kx0 : ∀ w', Later X w' → w'.cell? ⟨_, 0, none⟩ = some _ := fun w' h => (Bx.ext h).c0
        have kx1 : ∀ w', Later X w' → w'.cell? ⟨_, 1, none⟩ = some _ := fun w' h => (Bx.ext h).c1
        have kx2 : ∀ w', Later X w' → w'.cell? ⟨_, 2, none⟩ = some _ := fun w' h => (Bx.ext h).c2
        have kx3 : ∀ w', Later X w' → w'.cell? ⟨_, 3, none⟩ = some _ := fun w' h => (Bx.ext h).c3
        have ks := Later.refl X
        obtain ⟨S, hS⟩ : ∃ S, S = decide (p.obj j ≤ f j) := ⟨_, rfl⟩
        have HSY : Hid (S = true → geB f p.obj (j + 1) = true) := Lib.hid (fun h => by show (geB f p.obj j && decide (p.obj j ≤ f j)) = true; rw [HJ.out, ← hS, h]; rfl)
        have HSN : Hid (S = false → F = false) := Lib.hid (fun h => by
          rw [HFE.out]
          cases e : geB f p.obj p.n with
          | false => rfl
          | true => rw [hS] at h; exact absurd (geB_iff.1 e j hlt) (of_decide_eq_false h))
        obtain ⟨cq, hcq⟩ : ∃ c, c = cmpQ (f j) (p.obj j) := ⟨_, rfl⟩
        have e9 : decide (cq < 0) = !S := by
          rw [hcq, hS]
          rcases cmpQ_cases (f j) (p.obj j) with ⟨a, b⟩ | ⟨a, b⟩ | ⟨a, b⟩ <;> rw [b]
          · have : ¬ p.obj j ≤ f j := Rat.not_le.2 a
            simp [this]
          · have : p.obj j ≤ f j := by rw [a]; exact Rat.le_refl
            simp [this]
          · have : p.obj j ≤ f j := Rat.le_of_lt a
            simp [this]
        have HCQ := Lib.hid hcq
        have i1 : (0 : Int) ≤ (j : Int) := by omega
        have i2 : (j : Int) < (p.n : Int) := by omega
        clear a0 a1 a2 a3 g0 g1 g2 g3 hcq hr3 hr4 hS HJ
        go_region_held3 (fun w' => Later X w') ((repeat (first | assumption | apply Later.drew | apply Later.drewN | apply Later.alloc | (refine Later.step ?_ (by assumption))))) (first
          | (go_at_call 23; (with_reducible refine (RatCmp_b _ _ _ _ _ _ _ (RatB.ext hF (by repeat (first | (with_reducible exact Ext.refl _) | (with_reducible apply Ext.drew) | (with_reducible apply Ext.drewN) | (with_reducible refine Ext.trans ?_ (by assumption))))) (RatB.ext hG (by repeat (first | (with_reducible exact Ext.refl _) | (with_reducible apply Ext.drew) | (with_reducible apply Ext.drewN) | (with_reducible refine Ext.trans ?_ (by assumption))))) (by omega)).mono ?_); rintro e wk ⟨rfl, hxk⟩; rw [← HCQ.out])
          )
        all_goals (
          have hxk2 : Ext X wk := by assumption
          have hxx := hx.trans hxk2
          clear k30 ko0 ko1 ko2 ko3 kx0 kx1 kx2 kx3
          cases S with
          | true =>
            have HN1 : Hid (geB f p.obj (j + 1) = true) := Lib.hid (HSY.out rfl)
            clear HSY HSN
            go_wp2_with fail
            go_roundw
            case rel => first | exact ⟨j + 1, by omega, by go_num, HN1, hxx⟩ | ((repeat (apply Exists.intro (α := Value))); exact ⟨⟨j + 1, by omega, by go_num, HN1, hxx⟩, rfl⟩)
            case measure => simp [intOf]; omega
          | false =>
            have HE : Hid (F = false) := Lib.hid (HSN.out rfl)
            clear HSY HSN
            have ZX := ZB.ext hxx
            have z0 := ZX.c0
            have z1 := ZX.c1
            have z2 := ZX.c2
            have z3 := ZX.c3
            have f0 := ZX.frozen 0
            have f1 := ZX.frozen 1
            have f2 := ZX.frozen 2
            have f3 := ZX.frozen 3
            have hb4 := ZX.set4 (.bool false) (.slice none 0 0) (.bool false) (.slice none 0 0)
            have pc0 := hb4.c0
            have pc1 := hb4.c1
            have pc2 := hb4.c2
            have pc3 := hb4.c3
            go_wp2_with fail
            refine bodyPost_ret (v := .tuple #[.agg #[.bool false, .slice none 0 0, .bool false, .slice none 0 0], .bool false]) (by simp [results, Tryz.results51, go_sem, pc0, pc1, pc2, pc3]) rfl ?_
            rw [HP.out]
            exact ⟨.inl ⟨HE.out, rfl⟩, ext4 hw4 (hE2.trans hxx) (.bool false) (.slice none 0 0) (.bool false) (.slice none 0 0)⟩)
      · obtain rfl : j = p.n := by omega
        have HE : Hid (F = true) := Lib.hid (by rw [HFE.out, HJ.out])
        have B7 := B8.ext hx
        have Z7 := ZB.ext hx
        have x0 := B7.c0
        have x1 := B7.c1
        have x2 := B7.c2
        have x3 := B7.c3
        have z0 := Z7.c0
        have z1 := Z7.c1
        have z2 := Z7.c2
        have z3 := Z7.c3
        have f0 := Z7.frozen 0
        have f1 := Z7.frozen 1
        have f2 := Z7.frozen 2
        have f3 := Z7.frozen 3
        have hZ7 := hZ.ext hx
        obtain ⟨pp, hb4⟩ := RatV.put hZ7.1 Z7
        have pc0 := hb4.c0
        have pc1 := hb4.c1
        have pc2 := hb4.c2
        have pc3 := hb4.c3
        go_wp2_with fail
        refine bodyPost_ret (v := .tuple #[.agg #[.bool q, .slice A n1 c, .bool q', .slice A' n1' c'], .bool true]) (by simp [results, Tryz.results51, go_sem, pc0, pc1, pc2, pc3]) rfl ?_
        rw [HP.out]
        exact ⟨.inr ⟨HE.out, q, A, n1, c, q', A', n1', c', rfl, ⟨pp, hZ7.2⟩⟩, ext4 hw4 (hE2.trans hx) (.bool q) (.slice A n1 c) (.bool q') (.slice A' n1' c')⟩
end Go.Proofs.YtljncdcjkdgkeaaGreatDoor.Lp
namespace Go.Proofs.YtljncdcjkdgkeaaGreatDoor.Lp
open Go.RowKit Go.Proofs.YtljncdcjkdgkeaaGreatDoor.Big Go.Proofs.YtljncdcjkdgkeaaGreatDoor.Rt

def leafB (p : Prob) (ny : Nat) (y : Nat → Rat) (z : Rat) : Bool := validB p && (bndB p ny y && decide (p.rhs y ≤ z))
set_option maxHeartbeats 8000000 in
set_option maxRecDepth 100000 in
theorem Leaf_b (v : Value) (p : Prob) (vz : Value) (z : Rat) (Ay : Option Addr) (ny cy : Nat) (y : Nat → Rat) (Kc Kr Ko Ky Kz T : Nat) (w : World) (hv : ProbV w v p) (hz : RatB w vz z Kz) (hy : RatsV w Ay ny cy y)
    (hc : ∀ i, i < p.m → ∀ j, j < p.n → QB Kc (p.coef i j)) (hr : ∀ i, i < p.m → QB Kr (p.right i)) (ho : ∀ j, j < p.n → QB Ko (p.obj j)) (hq : ∀ j, j < ny → QB Ky (y j)) (hT : 1 + p.m * (Kc + Kr + Ky + 1) ≤ T) (hT2 : T ≤ 137438953472) (hT3 : Kc + Kr + Ky ≤ 137438953472) (hT4 : Ko ≤ 137438953472) (hT5 : Kz ≤ 137438953472) :
    Calls Tryz.prog 30 #[v, vz, .slice Ay ny cy] w (ValPost w (.bool (leafB p ny y z))) := by
  have hv0 := hv
  obtain ⟨Ao, co, Ar, cr, rfl, -⟩ := hv0
  obtain ⟨zp, zA, zn, zc, zp', zA', zn', zc', rfl⟩ := hz.1.shape
  have HC := Lib.hid hc
  have HR := Lib.hid hr
  have HO := Lib.hid ho
  have HY := Lib.hid hq
  have HT := Lib.hid hT
  clear hc hr ho hq hT
  obtain ⟨F, hF⟩ : ∃ F, F = leafB p ny y z := ⟨_, rfl⟩
  obtain ⟨B, hB⟩ : ∃ F, F = validB p := ⟨_, rfl⟩
  have HF : Hid (F = (B && (bndB p ny y && decide (p.rhs y ≤ z)))) := Lib.hid (by rw [hF, hB]; rfl)
  rw [← hF]
  clear hF
  obtain ⟨PB, ZB, hE0⟩ := boxesT2 w 41 58 #[.slice Ao p.n co, .slice Ar p.m cr] #[.bool zp, .slice zA zn zc, .bool zp', .slice zA' zn' zc']
  go_enter Tryz.func30, Tryz.ntmps30
  go_upto_region 1 with fail
  generalize ((w.alloc (.cells #[.slice Ao p.n co, .slice Ar p.m cr] 41)).alloc (.cells #[.bool zp, .slice zA zn zc, .bool zp', .slice zA' zn' zc'] 58)) = V at *
  have c0 := PB.c0
  have c1 := PB.c1
  have hvV := hv.ext hE0
  go_wp2_with fail
  refine (Valid_b _ p _ hvV).mono ?_
  rintro e w1 ⟨rfl, hx1⟩
  have hE1 := hE0.trans hx1
  have hv1 := hv.ext hE1
  have hy1 := hy.ext hE1
  have PB := PB.ext hx1
  have ZB := ZB.ext hx1
  have c0 := PB.c0
  have c1 := PB.c1
  rw [← hB]
  cases B with
  | false =>
    clear hB
    go_wp2_with fail
    go_ret
    exact ⟨by rw [HF.out]; rfl, hE1⟩
  | true =>
    have HV : Hid (validB p = true) := Lib.hid hB.symm
    clear hB
    go_wp2_with fail
    refine (bounded_b _ p Ay ny cy y Kc Kr Ko Ky T _ hv1 HV.out hy1 HC.out HR.out HO.out HY.out HT.out hT2 hT3 hT4).mono ?_
    rintro e w2 ⟨hcase, hx2⟩
    have hE2 := hE1.trans hx2
    have ZB := ZB.ext hx2
    clear c0 c1 PB
    rcases hcase with ⟨hb, rfl⟩ | ⟨hb, q, A, n1, c, q', A', n1', c', rfl, hS⟩
    · have HE : Hid (F = false) := Lib.hid (by rw [HF.out, hb]; rfl)
      clear hb
      go_upto_region 4 with fail
      have hx6 : Ext w2 (w2.alloc (.cells #[.bool false, .slice none 0 0, .bool false, .slice none 0 0] 58)) := (Ext.refl w2).alloc _
      generalize (w2.alloc (.cells #[.bool false, .slice none 0 0, .bool false, .slice none 0 0] 58)) = U at *
      go_wp2_with fail
      go_ret
      exact ⟨by rw [HE.out]; rfl, hE2.trans hx6⟩
    · have HE : Hid (F = decide (p.rhs y ≤ z)) := Lib.hid (by rw [HF.out, hb]; rfl)
      clear hb
      go_upto_region 4 with fail
      have B8 := Box.new w2 58 #[.bool q, .slice A n1 c, .bool q', .slice A' n1' c']
      have hx6 : Ext w2 (w2.alloc (.cells #[.bool q, .slice A n1 c, .bool q', .slice A' n1' c'] 58)) := (Ext.refl w2).alloc _
      generalize (w2.alloc (.cells #[.bool q, .slice A n1 c, .bool q', .slice A' n1' c'] 58)) = U at *
      have ZB := ZB.ext hx6
      have hE3 := hE2.trans hx6
      have hS := hS.ext hx6
      have hz3 := hz.ext hE3
      have x0 := B8.c0
      have x1 := B8.c1
      have x2 := B8.c2
      have x3 := B8.c3
      have y0 := ZB.c0
      have y1 := ZB.c1
      have y2 := ZB.c2
      have y3 := ZB.c3
      go_wp2_with fail
      refine (RatCmp_b _ _ _ _ _ _ _ hS hz3 (by omega)).mono ?_
      rintro e w9 ⟨rfl, hx9⟩
      obtain ⟨S, hS⟩ : ∃ S, S = decide (p.rhs y ≤ z) := ⟨_, rfl⟩
      obtain ⟨cq, hcq⟩ : ∃ c, c = cmpQ (p.rhs y) z := ⟨_, rfl⟩
      have e9 : decide (cq ≤ 0) = S := by
        rw [hcq, hS]
        rcases cmpQ_cases (p.rhs y) z with ⟨a, b⟩ | ⟨a, b⟩ | ⟨a, b⟩ <;> rw [b]
        · have : p.rhs y ≤ z := Rat.le_of_lt a
          simp [this]
        · have : p.rhs y ≤ z := by rw [a]; exact Rat.le_refl
          simp [this]
        · have : ¬ p.rhs y ≤ z := Rat.not_le.2 a
          simp [this]
      rw [← hcq]
      rw [← hS] at HE
      clear hcq hS x0 x1 x2 x3 y0 y1 y2 y3
      go_wp2_with fail
      go_ret
      exact ⟨by rw [HE.out]; cases S <;> rfl, hE3.trans hx9⟩
end Go.Proofs.YtljncdcjkdgkeaaGreatDoor.Lp
namespace Go.Proofs.YtljncdcjkdgkeaaGreatDoor.Lp
open Go.RowKit Go.Proofs.YtljncdcjkdgkeaaGreatDoor.Big Go.Proofs.YtljncdcjkdgkeaaGreatDoor.Rt

theorem bounded_u (v : Value) (p : Prob) (Ay : Option Addr) (ny cy : Nat) (y : Nat → Rat) (Kc Kr Ko Ky T : Nat) (w : World) (hv : ProbV w v p) (hval : validB p = true) (hy : RatsV w Ay ny cy y)
    (hc : ∀ i, i < p.m → ∀ j, j < p.n → QB Kc (p.coef i j)) (hr : ∀ i, i < p.m → QB Kr (p.right i)) (ho : ∀ j, j < p.n → QB Ko (p.obj j)) (hq : ∀ j, j < ny → QB Ky (y j)) (hT : 1 + p.m * (Kc + Kr + Ky + 1) ≤ T) (hT2 : T ≤ 137438953472) (hT3 : Kc + Kr + Ky ≤ 137438953472) (hT4 : Ko ≤ 137438953472) :
    Calls Tryz.prog 51 #[v, .slice Ay ny cy] w (fun e w' => ∃ q A n c q' A' n' c', e = .returned (.tuple #[.agg #[.bool q, .slice A n c, .bool q', .slice A' n' c'], .bool (bndB p ny y)]) ∧ (bndB p ny y = true → RatB w' (.agg #[.bool q, .slice A n c, .bool q', .slice A' n' c']) (p.rhs y) T) ∧ Ext w w') := by
  refine (bounded_b v p Ay ny cy y Kc Kr Ko Ky T w hv hval hy hc hr ho hq hT hT2 hT3 hT4).mono ?_
  rintro e w' ⟨⟨hb, rfl⟩ | ⟨hb, q, A, n, c, q', A', n', c', rfl, h⟩, hx⟩
  · refine ⟨false, none, 0, 0, false, none, 0, 0, by rw [hb], ?_, hx⟩
    intro h
    rw [hb] at h
    cases h
  · exact ⟨q, A, n, c, q', A', n', c', by rw [hb], fun _ => h, hx⟩
end Go.Proofs.YtljncdcjkdgkeaaGreatDoor.Lp
namespace Go.Proofs.YtljncdcjkdgkeaaGreatDoor.Lp
open Go.RowKit Go.Proofs.YtljncdcjkdgkeaaGreatDoor.Big Go.Proofs.YtljncdcjkdgkeaaGreatDoor.Rt

/-- a number stored into its box -/
theorem put4 {w : World} {b : Nat} {p p' : Bool} {A A' : Option Addr} {n c n' c' : Nat} (B : Box w b 58 #[.bool p, .slice A n c, .bool p', .slice A' n' c']) (u0 u1 u2 u3 : Value) : Fr (fun k => k = b) w ((((w.setCell ⟨b, 0, none⟩ u0).setCell ⟨b, 1, none⟩ u1).setCell ⟨b, 2, none⟩ u2).setCell ⟨b, 3, none⟩ u3) ∧ Box ((((w.setCell ⟨b, 0, none⟩ u0).setCell ⟨b, 1, none⟩ u1).setCell ⟨b, 2, none⟩ u2).setCell ⟨b, 3, none⟩ u3) b 58 #[u0, u1, u2, u3] :=
  ⟨((((Fr.refl (fun k => k = b) w).set (p := ⟨b, 0, none⟩) rfl (fun z => by rw [B.c0]; intro e; cases e) _).set (p := ⟨b, 1, none⟩) rfl (fun z => by rw [(B.set 0 _).c1]; intro e; cases e) _).set (p := ⟨b, 2, none⟩) rfl (fun z => by rw [((B.set 0 _).set 1 _).c2]; intro e; cases e) _).set (p := ⟨b, 3, none⟩) rfl (fun z => by rw [(((B.set 0 _).set 1 _).set 2 _).c3]; intro e; cases e) _, (((B.set 0 u0).set 1 u1).set 2 u2).set 3 u3⟩
def chkB (b : Bool) (q z : Rat) (s : Bool) : Bool := b && (decide (q < z) || (!s && decide (q = z)))
def dk5 : Oper := { dst := some 65, op := Op.call { callee := Callee.value (Operand.func 51), args := #[Operand.tmp 60, Operand.tmp 64], argTypes := #[41, 38] }, type := 112, pos := "certificate.go:166", after := #[{ on := 0, ground := Ground.data }, { on := 4, ground := Ground.data }], guard := none }
def dk9 : Oper := { dst := some 8, op := Op.alloc 58, type := 0, pos := "certificate.go:166", after := #[], guard := none }
def dk10 : Oper := { dst := none, op := Op.store 58 (Operand.tmp 8) (Operand.tmp 66), type := 0, pos := "certificate.go:166", after := #[{ on := 9, ground := Ground.data }, { on := 7, ground := Ground.data }, { on := 5, ground := Ground.chain }, { on := 0, ground := Ground.phase }, { on := 1, ground := Ground.phase }, { on := 2, ground := Ground.phase }, { on := 3, ground := Ground.phase }, { on := 4, ground := Ground.phase }, { on := 5, ground := Ground.phase }, { on := 6, ground := Ground.phase }, { on := 7, ground := Ground.phase }, { on := 8, ground := Ground.textOnly Departure.lateStores }, { on := 9, ground := Ground.phase }], guard := none }
set_option maxHeartbeats 2000000 in
set_option maxRecDepth 100000 in
theorem provesC_leaf (v f1 : Value) (tb lb sb : Nat) (fl : Int) (p : Prob) (Ay : Option Addr) (ny cy : Nat) (y : Nat → Rat) (Kc Kr Ko Ky Kz T : Nat) (z : Rat) (s : Bool) (u1 u3 : Bool) (U2 U4 : Option Addr) (l2 l3 l4 l5 : Nat) (w : World) (hT0 : Box w tb 79 (NodeC (-1) fl none none false Ay ny cy)) (hv : ProbV w v p) (hval : validB p = true) (hy : RatsV w Ay ny cy y)
    (hLB : Box w lb 58 #[.bool u1, .slice U2 l2 l3, .bool u3, .slice U4 l4 l5]) (hz : RatB w (.agg #[.bool u1, .slice U2 l2 l3, .bool u3, .slice U4 l4 l5]) z Kz) (hSB : Box w sb 4 #[.bool s])
    (hc : ∀ i, i < p.m → ∀ j, j < p.n → QB Kc (p.coef i j)) (hr : ∀ i, i < p.m → QB Kr (p.right i)) (ho : ∀ j, j < p.n → QB Ko (p.obj j)) (hq : ∀ j, j < ny → QB Ky (y j)) (hT : 1 + p.m * (Kc + Kr + Ky + 1) ≤ T) (hT2 : T ≤ 137438953472) (hT3 : Kc + Kr + Ky ≤ 137438953472) (hT4 : Ko ≤ 137438953472) (hT5 : Kz ≤ 137438953472) :
    Calls Tryz.prog 48 #[v, .pointer (some ⟨tb, 0, none⟩), f1, .pointer (some ⟨lb, 0, none⟩), .pointer (some ⟨sb, 0, none⟩)] w (ValPost w (.bool (chkB (bndB p ny y) (p.rhs y) z s))) := by
  obtain ⟨Ao, co, Ar, cr, rfl, -⟩ := id hv
  have HC := Lib.hid hc
  have HR := Lib.hid hr
  have HY := Lib.hid hq
  have HO := Lib.hid ho
  have HT := Lib.hid hT
  have HV := Lib.hid hval
  clear hc hr ho hq hT hval
  obtain ⟨F, hF⟩ : ∃ F, F = bndB p ny y := ⟨_, rfl⟩
  obtain ⟨q, hq⟩ : ∃ q, q = p.rhs y := ⟨_, rfl⟩
  have HF := Lib.hid hF
  have HQ := Lib.hid hq
  rw [← hF, ← hq]
  clear hF hq
  have PB := Box.new w 41 #[.slice Ao p.n co, .slice Ar p.m cr]
  have hE0 : Ext w (w.alloc (.cells #[.slice Ao p.n co, .slice Ar p.m cr] 41)) := (Ext.refl w).alloc _
  go_enter Tryz.func48, Tryz.ntmps48
  go_upto_region 1 with fail
  generalize (w.alloc (.cells #[.slice Ao p.n co, .slice Ar p.m cr] 41)) = V at *
  obtain ⟨pb, hpb⟩ : ∃ x, x = w.heap.size := ⟨_, rfl⟩
  rw [← hpb] at PB ⊢
  clear hpb
  have TB := hT0.ext hE0
  have t0 : V.cell? ⟨tb, 0, none⟩ = some (.int .i64 (-1)) := TB.cell 0
  have t4 : V.cell? ⟨tb, 4, none⟩ = some (.bool false) := TB.cell 4
  have hvV := hv.ext hE0
  have hyV := hy.ext hE0
  go_upto_region 5 with fail
  clear t0 t4
  go_cut [8, 9] (fun v8 v9 wx => ∃ (b8 : Nat) (x1 : Bool) (X2 : Option Addr) (n2 c2 : Nat) (x3 : Bool) (X4 : Option Addr) (n4 c4 : Nat), v8 = .pointer (some ⟨b8, 0, none⟩) ∧ v9 = .bool F ∧ Box wx b8 58 #[.bool x1, .slice X2 n2 c2, .bool x3, .slice X4 n4 c4] ∧ (F = true → RatB wx (.agg #[.bool x1, .slice X2 n2 c2, .bool x3, .slice X4 n4 c4]) q T) ∧ Ext V wx)
  case first =>
    have k30 : ∀ w', Later V w' → w'.cell? ⟨pb, 0, none⟩ = some _ := fun w' h => (PB.ext h).c0
    have k31 : ∀ w', Later V w' → w'.cell? ⟨pb, 1, none⟩ = some _ := fun w' h => (PB.ext h).c1
    have k5 : ∀ w', Later V w' → w'.cell? ⟨tb, 5, none⟩ = some (.slice Ay ny cy) := fun w' h => (TB.ext h).cell 5
    clear PB TB hT0 hLB hSB hz hv hy
    refine wp_region_held_drew (S := fun w' => Later V w') (by kernel_rfl) ?_ (fun hHeld => ?_)
    ·exact (Later.refl V).drew
    have hE : Ext V V.drew := (Ext.refl V).drew
    generalize V.drew = Z1 at *
    refine wpAnyH_take (i := 0) (oi := { dst := some 60, op := Op.load 41 (Operand.tmp 5), type := 41, pos := "certificate.go:166", after := #[], guard := none }) (v := ?_) rfl (by kernel_rfl) (by kernel_rfl) (by kernel_rfl) (fun _ _ _ h => h) (Or.inl ⟨by rfl, ?_⟩) (by assumption) ?_
    rotate_left
    ·intro w hSw; (try dsimp only at hSw); go_simp; try (with_reducible rfl)
    try simp only [Act.put, List.setIfInBounds_toArray, List.set_cons_zero, List.set_cons_succ]
    refine wpAnyH_take (i := 1) (oi := { dst := some 61, op := Op.move (Operand.tmp 1), type := 25, pos := "certificate.go:166", after := #[], guard := none }) (v := ?_) rfl (by kernel_rfl) (by kernel_rfl) (by kernel_rfl) (fun _ _ _ h => h) (Or.inl ⟨by rfl, ?_⟩) (by assumption) ?_
    rotate_left
    ·intro w hSw; (try dsimp only at hSw); go_simp; try (with_reducible rfl)
    try simp only [Act.put, List.setIfInBounds_toArray, List.set_cons_zero, List.set_cons_succ]
    refine wpAnyH_take (i := 2) (oi := { dst := some 62, op := Op.nilCheck (Operand.tmp 61), type := 0, pos := "certificate.go:166", after := #[{ on := 1, ground := Ground.data }], guard := none }) (v := ?_) rfl (by kernel_rfl) (by kernel_rfl) (by kernel_rfl) (fun _ _ _ h => h) (Or.inl ⟨by rfl, ?_⟩) (by assumption) ?_
    rotate_left
    ·intro w hSw; (try dsimp only at hSw); go_simp; try (with_reducible rfl)
    try simp only [Act.put, List.setIfInBounds_toArray, List.set_cons_zero, List.set_cons_succ]
    refine wpAnyH_take (i := 3) (oi := { dst := some 63, op := Op.fieldAddr 79 (Operand.tmp 62) 5, type := 0, pos := "certificate.go:166", after := #[{ on := 2, ground := Ground.data }], guard := none }) (v := ?_) rfl (by kernel_rfl) (by kernel_rfl) (by kernel_rfl) (fun _ _ _ h => h) (Or.inl ⟨by rfl, ?_⟩) (by assumption) ?_
    rotate_left
    ·intro w hSw; (try dsimp only at hSw); go_simp; try (with_reducible rfl)
    try simp only [Act.put, List.setIfInBounds_toArray, List.set_cons_zero, List.set_cons_succ]
    refine wpAnyH_take (i := 4) (oi := { dst := some 64, op := Op.load 38 (Operand.tmp 63), type := 38, pos := "certificate.go:166", after := #[{ on := 3, ground := Ground.data }], guard := none }) (v := ?_) rfl (by kernel_rfl) (by kernel_rfl) (by kernel_rfl) (fun _ _ _ h => h) (Or.inl ⟨by rfl, ?_⟩) (by assumption) ?_
    rotate_left
    ·intro w hSw; (try dsimp only at hSw); go_simp; try (with_reducible rfl)
    try simp only [Act.put, List.setIfInBounds_toArray, List.set_cons_zero, List.set_cons_succ]
    refine wpAnyH_ready (rs := [5, 9]) (by kernel_rfl) (by simp) ?_
    refine AllReadyH.cons (o := dk5) rfl (fun K hK => ?_) ?_
    ·unfold dk5
     go_simp
     go_at_call 51
     refine (bounded_u _ p Ay ny cy y Kc Kr Ko Ky T _ (hvV.ext hE) HV.out (hyV.ext hE) HC.out HR.out HO.out HY.out HT.out hT2 hT3 hT4).mono ?_
     rintro e Z2 ⟨x1, X2, n2, c2, x3, X4, n4, c4, rfl, hqq, hx⟩
     rw [← HF.out] at hqq ⊢
     rw [← HQ.out] at hqq
     have hE := hE.trans hx
     clear hx
     have hLt : Later V Z2 := hE
     try (go_wp2_with fail)
     refine hK.out _ _ hLt (fun hHeld => ?_)
     clear hK K hLt
     try simp only [Act.put, List.setIfInBounds_toArray, List.set_cons_zero, List.set_cons_succ]
     refine wpAnyH_take (i := 6) (oi := { dst := some 59, op := Op.move (Operand.tmp 65), type := 112, pos := "certificate.go:166", after := #[{ on := 5, ground := Ground.data }], guard := none }) (v := ?_) rfl (by kernel_rfl) (by kernel_rfl) (by kernel_rfl) (fun _ _ _ h => h) (Or.inl ⟨by rfl, ?_⟩) (by assumption) ?_
     rotate_left
     ·intro w hSw; (try dsimp only at hSw); go_simp; try (with_reducible rfl)
     try simp only [Act.put, List.setIfInBounds_toArray, List.set_cons_zero, List.set_cons_succ]
     refine wpAnyH_take (i := 7) (oi := { dst := some 66, op := Op.extract (Operand.tmp 59) 0, type := 58, pos := "certificate.go:166", after := #[{ on := 6, ground := Ground.data }], guard := none }) (v := ?_) rfl (by kernel_rfl) (by kernel_rfl) (by kernel_rfl) (fun _ _ _ h => h) (Or.inl ⟨by rfl, ?_⟩) (by assumption) ?_
     rotate_left
     ·intro w hSw; (try dsimp only at hSw); go_simp; try (with_reducible rfl)
     try simp only [Act.put, List.setIfInBounds_toArray, List.set_cons_zero, List.set_cons_succ]
     refine wpAnyH_take (i := 8) (oi := { dst := some 67, op := Op.extract (Operand.tmp 59) 1, type := 4, pos := "certificate.go:166", after := #[{ on := 6, ground := Ground.data }, { on := 10, ground := Ground.gcOnly Departure.lateStores }], guard := none }) (v := ?_) rfl (by kernel_rfl) (by kernel_rfl) (by kernel_rfl) (fun _ _ _ h => h) (Or.inl ⟨by rfl, ?_⟩) (by assumption) ?_
     rotate_left
     ·intro w hSw; (try dsimp only at hSw); go_simp; try (with_reducible rfl)
     try simp only [Act.put, List.setIfInBounds_toArray, List.set_cons_zero, List.set_cons_succ]
     refine wpAnyH_ready (rs := [9]) (by kernel_rfl) (by simp) ?_
     refine AllReadyH.cons (o := dk9) rfl (fun K hK => ?_) ?_
     ·unfold dk9
      go_simp
      have NB := Box.new Z2 58 #[.bool false, .slice none 0 0, .bool false, .slice none 0 0]
      have hx : Ext Z2 (Z2.alloc (.cells #[.bool false, .slice none 0 0, .bool false, .slice none 0 0] 58)) := (Ext.refl Z2).alloc _
      generalize (Z2.alloc (.cells #[.bool false, .slice none 0 0, .bool false, .slice none 0 0] 58)) = Z3 at *
      obtain ⟨bN, hbN⟩ : ∃ x, x = Z2.heap.size := ⟨_, rfl⟩
      rw [← hbN] at NB ⊢
      have hwN : V.heap.size ≤ bN := by have := hE.size; omega
      clear hbN
      have hqq := fun h => (hqq h).ext hx
      have hE := hE.trans hx
      clear hx
      have hLt : Later V Z3 := hE
      refine hK.out _ _ hLt (fun hHeld => ?_)
      clear hK K hLt
      try simp only [Act.put, List.setIfInBounds_toArray, List.set_cons_zero, List.set_cons_succ]
      refine wpAnyH_ready (rs := [10]) (by kernel_rfl) (by simp) ?_
      refine AllReadyH.cons (o := dk10) rfl (fun K hK => ?_) ?_
      ·have y0 : Z3.cell? ⟨bN, 0, none⟩ = some _ := NB.cell 0
       have z0 := NB.frozen 0
       have y1 : Z3.cell? ⟨bN, 1, none⟩ = some _ := NB.cell 1
       have z1 := NB.frozen 1
       have y2 : Z3.cell? ⟨bN, 2, none⟩ = some _ := NB.cell 2
       have z2 := NB.frozen 2
       have y3 : Z3.cell? ⟨bN, 3, none⟩ = some _ := NB.cell 3
       have z3 := NB.frozen 3
       unfold dk10
       go_simp
       obtain ⟨hf, NB2⟩ := put4 NB (.bool x1) (.slice X2 n2 c2) (.bool x3) (.slice X4 n4 c4)
       have hqq := fun h => hf.ratB (hqq h)
       have hE := hf.ext hE (fun b hb => by rw [hb]; exact hwN)
       clear hf y0 z0 y1 z1 y2 z2 y3 z3
       have NB := NB2
       clear NB2
       generalize ((((Z3.setCell ⟨bN, 0, none⟩ (.bool x1)).setCell ⟨bN, 1, none⟩ (.slice X2 n2 c2)).setCell ⟨bN, 2, none⟩ (.bool x3)).setCell ⟨bN, 3, none⟩ (.slice X4 n4 c4)) = Z4 at *
       have hLt : Later V Z4 := hE
       refine hK.out _ _ hLt (fun hHeld => ?_)
       clear hK K hLt
       try simp only [Act.put, List.setIfInBounds_toArray, List.set_cons_zero, List.set_cons_succ]
       refine wpAnyH_take (i := 11) (oi := { dst := some 9, op := Op.assign (Operand.tmp 67), type := 4, pos := "certificate.go:166", after := #[{ on := 8, ground := Ground.data }, { on := 10, ground := Ground.chain }, { on := 0, ground := Ground.phase }, { on := 1, ground := Ground.phase }, { on := 2, ground := Ground.phase }, { on := 3, ground := Ground.phase }, { on := 4, ground := Ground.phase }, { on := 5, ground := Ground.phase }, { on := 6, ground := Ground.phase }, { on := 7, ground := Ground.phase }, { on := 8, ground := Ground.phase }, { on := 9, ground := Ground.phase }, { on := 10, ground := Ground.phase }], guard := none }) (v := ?_) rfl (by kernel_rfl) (by kernel_rfl) (by kernel_rfl) (fun _ _ _ h => h) (Or.inl ⟨by rfl, ?_⟩) (by assumption) ?_
       rotate_left
       ·intro w hSw; (try dsimp only at hSw); go_simp; try (with_reducible rfl)
       try simp only [Act.put, List.setIfInBounds_toArray, List.set_cons_zero, List.set_cons_succ]
       refine wpAnyH_done (by kernel_rfl) ?_ _
       go_wp2_with fail
       go_meet
       exact ⟨bN, x1, X2, n2, c2, x3, X4, n4, c4, rfl, rfl, NB, hqq, hE⟩
      exact AllReadyH.nil
     exact AllReadyH.nil
    refine AllReadyH.cons (o := dk9) rfl (fun K hK => ?_) ?_
    ·unfold dk9
     go_simp
     have NB := Box.new Z1 58 #[.bool false, .slice none 0 0, .bool false, .slice none 0 0]
     have hx : Ext Z1 (Z1.alloc (.cells #[.bool false, .slice none 0 0, .bool false, .slice none 0 0] 58)) := (Ext.refl Z1).alloc _
     generalize (Z1.alloc (.cells #[.bool false, .slice none 0 0, .bool false, .slice none 0 0] 58)) = Z5 at *
     obtain ⟨bN, hbN⟩ : ∃ x, x = Z1.heap.size := ⟨_, rfl⟩
     rw [← hbN] at NB ⊢
     have hwN : V.heap.size ≤ bN := by have := hE.size; omega
     clear hbN
     have hE := hE.trans hx
     clear hx
     have hLt : Later V Z5 := hE
     refine hK.out _ _ hLt (fun hHeld => ?_)
     clear hK K hLt
     try simp only [Act.put, List.setIfInBounds_toArray, List.set_cons_zero, List.set_cons_succ]
     refine wpAnyH_ready (rs := [5]) (by kernel_rfl) (by simp) ?_
     refine AllReadyH.cons (o := dk5) rfl (fun K hK => ?_) ?_
     ·unfold dk5
      go_simp
      go_at_call 51
      refine (bounded_u _ p Ay ny cy y Kc Kr Ko Ky T _ (hvV.ext hE) HV.out (hyV.ext hE) HC.out HR.out HO.out HY.out HT.out hT2 hT3 hT4).mono ?_
      rintro e Z6 ⟨x1, X2, n2, c2, x3, X4, n4, c4, rfl, hqq, hx⟩
      rw [← HF.out] at hqq ⊢
      rw [← HQ.out] at hqq
      have NB := NB.ext hx
      have hE := hE.trans hx
      clear hx
      have hLt : Later V Z6 := hE
      try (go_wp2_with fail)
      refine hK.out _ _ hLt (fun hHeld => ?_)
      clear hK K hLt
      try simp only [Act.put, List.setIfInBounds_toArray, List.set_cons_zero, List.set_cons_succ]
      refine wpAnyH_take (i := 6) (oi := { dst := some 59, op := Op.move (Operand.tmp 65), type := 112, pos := "certificate.go:166", after := #[{ on := 5, ground := Ground.data }], guard := none }) (v := ?_) rfl (by kernel_rfl) (by kernel_rfl) (by kernel_rfl) (fun _ _ _ h => h) (Or.inl ⟨by rfl, ?_⟩) (by assumption) ?_
      rotate_left
      ·intro w hSw; (try dsimp only at hSw); go_simp; try (with_reducible rfl)
      try simp only [Act.put, List.setIfInBounds_toArray, List.set_cons_zero, List.set_cons_succ]
      refine wpAnyH_take (i := 7) (oi := { dst := some 66, op := Op.extract (Operand.tmp 59) 0, type := 58, pos := "certificate.go:166", after := #[{ on := 6, ground := Ground.data }], guard := none }) (v := ?_) rfl (by kernel_rfl) (by kernel_rfl) (by kernel_rfl) (fun _ _ _ h => h) (Or.inl ⟨by rfl, ?_⟩) (by assumption) ?_
      rotate_left
      ·intro w hSw; (try dsimp only at hSw); go_simp; try (with_reducible rfl)
      try simp only [Act.put, List.setIfInBounds_toArray, List.set_cons_zero, List.set_cons_succ]
      refine wpAnyH_take (i := 8) (oi := { dst := some 67, op := Op.extract (Operand.tmp 59) 1, type := 4, pos := "certificate.go:166", after := #[{ on := 6, ground := Ground.data }, { on := 10, ground := Ground.gcOnly Departure.lateStores }], guard := none }) (v := ?_) rfl (by kernel_rfl) (by kernel_rfl) (by kernel_rfl) (fun _ _ _ h => h) (Or.inl ⟨by rfl, ?_⟩) (by assumption) ?_
      rotate_left
      ·intro w hSw; (try dsimp only at hSw); go_simp; try (with_reducible rfl)
      try simp only [Act.put, List.setIfInBounds_toArray, List.set_cons_zero, List.set_cons_succ]
      refine wpAnyH_ready (rs := [10]) (by kernel_rfl) (by simp) ?_
      refine AllReadyH.cons (o := dk10) rfl (fun K hK => ?_) ?_
      ·have y0 : Z6.cell? ⟨bN, 0, none⟩ = some _ := NB.cell 0
       have z0 := NB.frozen 0
       have y1 : Z6.cell? ⟨bN, 1, none⟩ = some _ := NB.cell 1
       have z1 := NB.frozen 1
       have y2 : Z6.cell? ⟨bN, 2, none⟩ = some _ := NB.cell 2
       have z2 := NB.frozen 2
       have y3 : Z6.cell? ⟨bN, 3, none⟩ = some _ := NB.cell 3
       have z3 := NB.frozen 3
       unfold dk10
       go_simp
       obtain ⟨hf, NB2⟩ := put4 NB (.bool x1) (.slice X2 n2 c2) (.bool x3) (.slice X4 n4 c4)
       have hqq := fun h => hf.ratB (hqq h)
       have hE := hf.ext hE (fun b hb => by rw [hb]; exact hwN)
       clear hf y0 z0 y1 z1 y2 z2 y3 z3
       have NB := NB2
       clear NB2
       generalize ((((Z6.setCell ⟨bN, 0, none⟩ (.bool x1)).setCell ⟨bN, 1, none⟩ (.slice X2 n2 c2)).setCell ⟨bN, 2, none⟩ (.bool x3)).setCell ⟨bN, 3, none⟩ (.slice X4 n4 c4)) = Z7 at *
       have hLt : Later V Z7 := hE
       refine hK.out _ _ hLt (fun hHeld => ?_)
       clear hK K hLt
       try simp only [Act.put, List.setIfInBounds_toArray, List.set_cons_zero, List.set_cons_succ]
       refine wpAnyH_take (i := 11) (oi := { dst := some 9, op := Op.assign (Operand.tmp 67), type := 4, pos := "certificate.go:166", after := #[{ on := 8, ground := Ground.data }, { on := 10, ground := Ground.chain }, { on := 0, ground := Ground.phase }, { on := 1, ground := Ground.phase }, { on := 2, ground := Ground.phase }, { on := 3, ground := Ground.phase }, { on := 4, ground := Ground.phase }, { on := 5, ground := Ground.phase }, { on := 6, ground := Ground.phase }, { on := 7, ground := Ground.phase }, { on := 8, ground := Ground.phase }, { on := 9, ground := Ground.phase }, { on := 10, ground := Ground.phase }], guard := none }) (v := ?_) rfl (by kernel_rfl) (by kernel_rfl) (by kernel_rfl) (fun _ _ _ h => h) (Or.inl ⟨by rfl, ?_⟩) (by assumption) ?_
       rotate_left
       ·intro w hSw; (try dsimp only at hSw); go_simp; try (with_reducible rfl)
       try simp only [Act.put, List.setIfInBounds_toArray, List.set_cons_zero, List.set_cons_succ]
       refine wpAnyH_done (by kernel_rfl) ?_ _
       go_wp2_with fail
       go_meet
       exact ⟨bN, x1, X2, n2, c2, x3, X4, n4, c4, rfl, rfl, NB, hqq, hE⟩
      exact AllReadyH.nil
     exact AllReadyH.nil
    exact AllReadyH.nil
  case rest =>
  obtain ⟨b8, x1, X2, n2, c2, x3, X4, n4, c4, rfl, rfl, QB8, hq8, hxc⟩ := hcut
  rename_i hK
  refine hK _ _ ?_
  clear hK
  have hE1 := hE0.trans hxc
  have LB := hLB.ext hE1
  have SB := hSB.ext hE1
  have hz1 := hz.ext hE1
  cases F with
  | false =>
    go_wp2_with fail
    go_ret
    exact ⟨rfl, hE1⟩
  | true =>
    have hq9 := hq8 rfl
    have e0 := QB8.c0
    have e1 := QB8.c1
    have e2 := QB8.c2
    have e3 := QB8.c3
    have l0 := LB.c0
    have l1 := LB.c1
    have l2' := LB.c2
    have l3' := LB.c3
    clear hq8
    go_wp2_with fail
    refine (RatCmp_b _ _ q z T Kz _ hq9 hz1 (by omega)).mono ?_
    rintro e w2 ⟨rfl, hx2⟩
    obtain ⟨g, hg⟩ : ∃ g, g = cmpQ q z := ⟨_, rfl⟩
    rw [← hg]
    have QB9 := QB8.ext hx2
    have LB2 := LB.ext hx2
    have SB2 := SB.ext hx2
    have hq2 := hq9.ext hx2
    have hz2 := hz1.ext hx2
    have hE2 := hE1.trans hx2
    clear e0 e1 e2 e3 l0 l1 l2' l3'
    by_cases hlt : q < z
    · have hgl : g = -1 := by
        rw [hg]
        rcases cmpQ_cases q z with ⟨-, h⟩ | ⟨h, -⟩ | ⟨h, -⟩
        · exact h
        · exact absurd hlt (by rw [h]; exact Rat.lt_irrefl)
        · exact absurd hlt (Rat.not_lt.2 (Rat.le_of_lt h))
      subst hgl
      clear hg
      go_wp2_with fail
      go_ret
      exact ⟨by unfold chkB; rw [decide_eq_true hlt]; rfl, hE2⟩
    · have hgl : ¬ g < 0 := by
        rw [hg]
        rcases cmpQ_cases q z with ⟨h, -⟩ | ⟨-, h⟩ | ⟨-, h⟩
        · exact absurd h hlt
        · rw [h]; decide
        · rw [h]; decide
      have hge : (g == 0) = decide (q = z) := by
        rw [hg]
        rcases cmpQ_cases q z with ⟨h, -⟩ | ⟨h, h'⟩ | ⟨h, h'⟩
        · exact absurd h hlt
        · rw [h', decide_eq_true h]; rfl
        · rw [h', decide_eq_false (fun e => by rw [e] at h; exact absurd h Rat.lt_irrefl)]; rfl
      have HG : Hid (cmpQ q z = g) := Lib.hid hg.symm
      have i1 : decide (g < 0) = false := decide_eq_false hgl
      have s0 := SB2.c0
      clear hg hgl
      cases s with
      | true =>
        clear hge
        go_wp2_with fail
        go_ret
        exact ⟨by unfold chkB; rw [decide_eq_false hlt]; rfl, hE2⟩
      | false =>
        obtain ⟨D, hD⟩ : ∃ D, D = decide (q = z) := ⟨_, rfl⟩
        rw [← hD] at hge
        have HD := Lib.hid hD
        clear hD
        have e0 := QB9.c0
        have e1 := QB9.c1
        have e2 := QB9.c2
        have e3 := QB9.c3
        have l0 := LB2.c0
        have l1 := LB2.c1
        have l2' := LB2.c2
        have l3' := LB2.c3
        have HH : Hid (chkB true q z false = D) := Lib.hid (by unfold chkB; rw [decide_eq_false hlt, ← HD.out]; simp)
        go_wp2_with fail
        refine (RatCmp_b _ _ q z T Kz _ hq2 hz2 (by omega)).mono ?_
        rintro e w3 ⟨rfl, hx3⟩
        rw [HG.out]
        clear e0 e1 e2 e3 l0 l1 l2' l3'
        go_wp2_with fail
        go_ret
        exact ⟨by rw [HH.out]; rfl, hE2.trans hx3⟩
end Go.Proofs.YtljncdcjkdgkeaaGreatDoor.Lp
